/- A part of the proof of TopTags: RefMul. Conditions: none. -/
import Derived.Test.YtdpojpcoghcieaaGreatSxAO
set_option maxHeartbeats 8000000
set_option linter.all false
namespace Go.Proofs.YtdpojpcoghcieaaGreat
open Lib renaming hid → K1
open Go.RowKit
set_option maxRecDepth 100000
open Value renaming int → U
open IntKind renaming i64 → O
open Int renaming natCast_add → Zw, natCast_mul → Zx, mul_add → Zy, natCast_emod → Zz
open Nat renaming mod_two_eq_zero_or_one → Z2
section
theorem LI (w:World) (a g:Int) :
  Calls Tryz.prog 146 #[U O a,U O g] w fun e w'=>e=.returned (U O (if a<=0 then 0 else g))/\w=w':=by
 by_cases h:a<=0
 all_goals
  go_enter Tryz.func146,Tryz.ntmps146
  go_wp2
  go_ret;refine ⟨?_,rfl⟩;simp
theorem Fq (x:Nat) (hx:x<18446744073709551616):bits BinOp.xor IntKind.u64 (if IntKind.u64.signed=true then -1 else IntKind.u64.max) (x:Int)=((18446744073709551615-x:Nat):Int):=by
 have h:=u64_xor_nat 18446744073709551615 x (by decide) hx;have e0:(if IntKind.u64.signed=true then (-1:Int) else IntKind.u64.max)=((18446744073709551615:Nat):Int):=by decide
 rw [e0,h]
 congr 1
 apply Nat.eq_of_testBit_eq;intro j;rw [Nat.testBit_xor,show (18446744073709551615:Nat)=2 ^ 64-1 by decide];have:=Nat.testBit_two_pow_sub_succ (x:=x) (n:=64) (by simpa using hx) j;rw [show 2 ^ 64-1-x=2 ^ 64-(x+1) by omega,this,Nat.testBit_two_pow_sub_one]
 by_cases hj:j<64
 . simp [hj]
 . simp only [hj,decide_false,Bool.false_bne,Bool.false_and];exact Nat.testBit_lt_two_pow (Nat.lt_of_lt_of_le hx (Nat.pow_le_pow_right (show 0<2 by decide) (show 64<=j by omega)))
theorem QC {hi lo H L X Y:Int} (h1:hi*18446744073709551616+lo=X % 340282366920938463463374607431768211456) (h2:H*18446744073709551616+L=Y % 340282366920938463463374607431768211456) :
  ((hi+(lo+L) / 18446744073709551616+H) % 18446744073709551616)*18446744073709551616+(lo+L) % 18446744073709551616=(X+Y) % 340282366920938463463374607431768211456:=by omega
theorem E3 {hi lo H L:Nat} {X Y:Int} (h1:((hi*18446744073709551616+lo:Nat):Int)=X % 340282366920938463463374607431768211456) (h2:((H*18446744073709551616+L:Nat):Int)=Y % 340282366920938463463374607431768211456) :
  ((((hi+(lo+L) / 18446744073709551616+H) % 18446744073709551616)*18446744073709551616+(lo+L) % 18446744073709551616:Nat):Int)=(X+Y) % 340282366920938463463374607431768211456:=by
 rw [Zw,Zx] at h1 h2 ⊢;have:=QC h1 h2;rw [Zz,Zz,Zw,Zw,Int.natCast_ediv,Zw];exact this
theorem LJ {H H2:Nat} {Y:Int} (h2:((H*18446744073709551616+0:Nat):Int)=Y % 340282366920938463463374607431768211456) (e:(H2:Int)=(18446744073709551616-(H:Int)) % 18446744073709551616) :
  ((H2*18446744073709551616+0:Nat):Int)=(-Y) % 340282366920938463463374607431768211456:=by
 rw [Zw,Zx] at h2 ⊢;rw [e];have:((0:Nat):Int)=0:=rfl;have:((18446744073709551616:Nat):Int)=18446744073709551616:=rfl;omega
theorem LK {H L H2 L2:Nat} {Y:Int} (h2:((H*18446744073709551616+L:Nat):Int)=Y % 340282366920938463463374607431768211456) (b4:L<18446744073709551616) (b5:L≠0) (e:(H2:Int)=18446744073709551615-(H:Int)) (e2:(L2:Int)=18446744073709551616-(L:Int)) :
  ((H2*18446744073709551616+L2:Nat):Int)=(-Y) % 340282366920938463463374607431768211456:=by
 rw [Zw,Zx] at h2 ⊢;rw [e,e2];have:((18446744073709551616:Nat):Int)=18446744073709551616:=rfl;omega
theorem QD (w:World) (a b:Int) (ha:-9223372036854775808<=a/\a<=9223372036854775807) (hb:-9223372036854775808<=b/\b<=9223372036854775807) :
  Calls Tryz.prog 121 #[U O a,U O b] w fun e w'=>(∃ hi lo:Nat,hi<18446744073709551616/\lo<18446744073709551616/\e=.returned (.tuple #[U O (wrap64 hi),.int .u64 lo])/\((hi*18446744073709551616+lo:Nat):Int)=(a*b) % 340282366920938463463374607431768211456)/\w=w':=by
 obtain ⟨A,hA⟩:∃ A:Nat,(A:Int)=a % 18446744073709551616:=⟨(a % 18446744073709551616).toNat,by omega⟩
 obtain ⟨B,hB⟩:∃ B:Nat,(B:Int)=b % 18446744073709551616:=⟨(b % 18446744073709551616).toNat,by omega⟩
 have fA:IntKind.u64.wrap a=(A:Int):=by rw [B9,hA]
 have fB:IntKind.u64.wrap b=(B:Int):=by rw [B9,hB]
 have hB64:B<18446744073709551616:=by omega
 have hA64:A<18446744073709551616:=by omega
 have HA:=K1 hA;have HB:=K1 hB;have HBR:=K1 hb;have HAR:=K1 ha;clear hA hB
 by_cases hneg:a<0
 . go_enter Tryz.func121,Tryz.ntmps121
   go_wp2
   go_loopw [6,7,9] (fun s6 s7 s9 wr=>∃ (i hi lo:Nat),i<=64/\hi<18446744073709551616/\lo<18446744073709551616/\s6=.int .u64 hi/\s7=.int .u64 lo/\s9=U O i/\wr=w/\Hid (((hi*18446744073709551616+lo:Nat):Int)=(a*mulT b B i) % 340282366920938463463374607431768211456)) (fun _ _ s9 _=>64-(intOf s9).toNat)
   case atStart=>exact ⟨0,0,0,by omega,by omega,by omega,rfl,rfl,rfl,rfl,K1 (by simp [mulT,Nat.mod_one])⟩
   case round =>
    obtain ⟨i,hi,lo,hi64,hhi,hlo,rfl,rfl,rfl,rfl,HV⟩:=hrel
    by_cases hlt:i<64
    . have hbit:=L4 (i:=i) hB64
      rcases Z2 (B / 2 ^ i) with h2 | h2
      . rw [h2] at hbit;have HT:=K1 (L5 HB.out HBR.out hlt h2);clear h2;go_wp2_with fail;go_roundw
        case rel=>exact ⟨i+1,hi,lo,by omega,hhi,hlo,rfl,rfl,by go_num,trivial,K1 (by rw [HT.out];exact HV.out)⟩
        case measure=>simp [intOf];omega
      . rw [h2] at hbit;have H2:=K1 h2;clear h2
        by_cases h0:0<i
        . obtain ⟨H,L,hH,hL,f1,f2,hX⟩:=xpart HA.out HAR.out (.inl ⟨hneg,rfl⟩) h0 hlt;have HX:=K1 hX;clear hX
          by_cases h63:i<63
          . have HT:=K1 (show a*mulT b B (i+1)=a*mulT b B i+a*2 ^ i by rw [Hu (by omega) H2.out,Zy]);go_wp2_with fail
            all_goals
             simp only [B9] at *;go_roundw
             case measure=>simp [intOf] <;> omega
             case rel =>
              have hc:=E3 HV.out (HX.out);refine ⟨i+1,(hi+(lo+L) / 18446744073709551616+H) % 18446744073709551616,(lo+L) % 18446744073709551616,by omega,by omega,by omega,congrArg (Value.int .u64) (by omega),congrArg (Value.int .u64) (by omega),by go_num,trivial,K1 ?_⟩;rw [HT.out];rw [hc]
          . have HT:=K1 (L6 (a:=a) HB.out HBR.out (show i=63 by omega) H2.out)
            obtain ⟨H',hH'⟩:∃ H',H'=18446744073709551615-H:=⟨_,rfl⟩
            have f3:=Fq H hH;rw [<- hH'] at f3
            by_cases hL0:L=0
            . subst hL0
              obtain ⟨H2,hH2⟩:∃ H2:Nat,(H2:Int)=(18446744073709551616-(H:Int)) % 18446744073709551616:=⟨((18446744073709551616-(H:Int)) % 18446744073709551616).toNat,by omega⟩
              have f4:bits BinOp.xor IntKind.u64 (if IntKind.u64.signed=true then -1 else IntKind.u64.max) 0=18446744073709551615:=Fq 0 (by decide);have f6:IntKind.u64.wrap ((H':Int)+1)=(H2:Int):=by rw [B9,hH2];omega
              have hHH:H2<18446744073709551616:=by omega
              have HY:=K1 (LJ HX.out hH2);clear hH' hH2;go_wp2_with fail
              all_goals
               simp only [B9] at *;go_roundw
               case measure=>simp [intOf] <;> omega
               case rel =>
                have hc:=E3 HV.out (HY.out);refine ⟨i+1,(hi+(lo+0) / 18446744073709551616+H2) % 18446744073709551616,(lo+0) % 18446744073709551616,by omega,by omega,by omega,congrArg (Value.int .u64) (by omega),congrArg (Value.int .u64) (by omega),by go_num,trivial,K1 ?_⟩;rw [HT.out];rw [hc]
            . obtain ⟨L',hL'⟩:∃ L',L'=18446744073709551615-L:=⟨_,rfl⟩
              obtain ⟨L2,hL2⟩:∃ L2,L2=18446744073709551616-L:=⟨_,rfl⟩
              have f4:=Fq L hL;rw [<- hL'] at f4;have f5:IntKind.u64.wrap ((L':Int)+1)=(L2:Int):=by rw [B9];omega
              have hLL:0<L2/\L2<18446744073709551616:=by omega
              have hHH:H'<18446744073709551616:=by omega
              have HY:=K1 (LK HX.out hL hL0 (by omega:(H':Int)=18446744073709551615-(H:Int)) (by omega:(L2:Int)=18446744073709551616-(L:Int)));clear hH' hL' hL2;go_wp2_with fail
              all_goals
               simp only [B9] at *;go_roundw
               case measure=>simp [intOf] <;> omega
               case rel =>
                have hc:=E3 HV.out (HY.out);refine ⟨i+1,(hi+(lo+L2) / 18446744073709551616+H') % 18446744073709551616,(lo+L2) % 18446744073709551616,by omega,by omega,by omega,congrArg (Value.int .u64) (by omega),congrArg (Value.int .u64) (by omega),by go_num,trivial,K1 ?_⟩;rw [HT.out];rw [hc]
        . have hi0:i=0:=by omega
          subst hi0;have hb1:bits BinOp.and IntKind.u64 (B:Int) 1=1:=by simpa using hbit
          have HT:=K1 (show a*mulT b B (0+1)=a*mulT b B 0+a*2 ^ 0 by rw [Hu (by omega) H2.out,Zy]);have HX:=K1 (show ((18446744073709551615*18446744073709551616+A:Nat):Int)=(a*2 ^ 0) % 340282366920938463463374607431768211456 by have:=HA.out;have:=HAR.out;omega);go_wp2_with fail
          all_goals
           simp only [B9] at *;go_roundw
           case measure=>simp [intOf] <;> omega
           case rel =>
            have hc:=E3 HV.out (HX.out);refine ⟨1,(hi+(lo+A) / 18446744073709551616+18446744073709551615) % 18446744073709551616,(lo+A) % 18446744073709551616,by omega,by omega,by omega,congrArg (Value.int .u64) (by omega),congrArg (Value.int .u64) (by omega),by go_num,trivial,K1 ?_⟩;rw [HT.out];rw [hc]
    . have h6:i=64:=by omega
      subst h6;go_wp2_with fail;have hv:=HV.out;rw [show mulT b B 64=b from if_pos rfl] at hv;refine bodyPost_ret (v:=.tuple #[U O (wrap64 hi),.int .u64 lo]) ?_ rfl ⟨⟨hi,lo,hhi,hlo,rfl,hv⟩,rfl⟩;simp [results,Tryz.results121,go_sem]
 . go_enter Tryz.func121,Tryz.ntmps121
   go_wp2
   go_loopw [6,7,9] (fun s6 s7 s9 wr=>∃ (i hi lo:Nat),i<=64/\hi<18446744073709551616/\lo<18446744073709551616/\s6=.int .u64 hi/\s7=.int .u64 lo/\s9=U O i/\wr=w/\Hid (((hi*18446744073709551616+lo:Nat):Int)=(a*mulT b B i) % 340282366920938463463374607431768211456)) (fun _ _ s9 _=>64-(intOf s9).toNat)
   case atStart=>exact ⟨0,0,0,by omega,by omega,by omega,rfl,rfl,rfl,rfl,K1 (by simp [mulT,Nat.mod_one])⟩
   case round =>
    obtain ⟨i,hi,lo,hi64,hhi,hlo,rfl,rfl,rfl,rfl,HV⟩:=hrel
    by_cases hlt:i<64
    . have hbit:=L4 (i:=i) hB64
      rcases Z2 (B / 2 ^ i) with h2 | h2
      . rw [h2] at hbit;have HT:=K1 (L5 HB.out HBR.out hlt h2);clear h2;go_wp2_with fail;go_roundw
        case rel=>exact ⟨i+1,hi,lo,by omega,hhi,hlo,rfl,rfl,by go_num,trivial,K1 (by rw [HT.out];exact HV.out)⟩
        case measure=>simp [intOf];omega
      . rw [h2] at hbit;have H2:=K1 h2;clear h2
        by_cases h0:0<i
        . obtain ⟨H,L,hH,hL,f1,f2,hX⟩:=xpart HA.out HAR.out (.inr ⟨by omega,rfl⟩) h0 hlt;rw [Int.zero_mul,show IntKind.u64.wrap 0=0 from rfl] at f2;have HX:=K1 hX;clear hX
          by_cases h63:i<63
          . have HT:=K1 (show a*mulT b B (i+1)=a*mulT b B i+a*2 ^ i by rw [Hu (by omega) H2.out,Zy]);go_wp2_with fail
            all_goals
             simp only [B9] at *;go_roundw
             case measure=>simp [intOf] <;> omega
             case rel =>
              have hc:=E3 HV.out (HX.out);refine ⟨i+1,(hi+(lo+L) / 18446744073709551616+H) % 18446744073709551616,(lo+L) % 18446744073709551616,by omega,by omega,by omega,congrArg (Value.int .u64) (by omega),congrArg (Value.int .u64) (by omega),by go_num,trivial,K1 ?_⟩;rw [HT.out];rw [hc]
          . have HT:=K1 (L6 (a:=a) HB.out HBR.out (show i=63 by omega) H2.out)
            obtain ⟨H',hH'⟩:∃ H',H'=18446744073709551615-H:=⟨_,rfl⟩
            have f3:=Fq H hH;rw [<- hH'] at f3
            by_cases hL0:L=0
            . subst hL0
              obtain ⟨H2,hH2⟩:∃ H2:Nat,(H2:Int)=(18446744073709551616-(H:Int)) % 18446744073709551616:=⟨((18446744073709551616-(H:Int)) % 18446744073709551616).toNat,by omega⟩
              have f4:bits BinOp.xor IntKind.u64 (if IntKind.u64.signed=true then -1 else IntKind.u64.max) 0=18446744073709551615:=Fq 0 (by decide);have f6:IntKind.u64.wrap ((H':Int)+1)=(H2:Int):=by rw [B9,hH2];omega
              have hHH:H2<18446744073709551616:=by omega
              have HY:=K1 (LJ HX.out hH2);clear hH' hH2;go_wp2_with fail
              all_goals
               simp only [B9] at *;go_roundw
               case measure=>simp [intOf] <;> omega
               case rel =>
                have hc:=E3 HV.out (HY.out);refine ⟨i+1,(hi+(lo+0) / 18446744073709551616+H2) % 18446744073709551616,(lo+0) % 18446744073709551616,by omega,by omega,by omega,congrArg (Value.int .u64) (by omega),congrArg (Value.int .u64) (by omega),by go_num,trivial,K1 ?_⟩;rw [HT.out];rw [hc]
            . obtain ⟨L',hL'⟩:∃ L',L'=18446744073709551615-L:=⟨_,rfl⟩
              obtain ⟨L2,hL2⟩:∃ L2,L2=18446744073709551616-L:=⟨_,rfl⟩
              have f4:=Fq L hL;rw [<- hL'] at f4;have f5:IntKind.u64.wrap ((L':Int)+1)=(L2:Int):=by rw [B9];omega
              have hLL:0<L2/\L2<18446744073709551616:=by omega
              have hHH:H'<18446744073709551616:=by omega
              have HY:=K1 (LK HX.out hL hL0 (by omega:(H':Int)=18446744073709551615-(H:Int)) (by omega:(L2:Int)=18446744073709551616-(L:Int)));clear hH' hL' hL2;go_wp2_with fail
              all_goals
               simp only [B9] at *;go_roundw
               case measure=>simp [intOf] <;> omega
               case rel =>
                have hc:=E3 HV.out (HY.out);refine ⟨i+1,(hi+(lo+L2) / 18446744073709551616+H') % 18446744073709551616,(lo+L2) % 18446744073709551616,by omega,by omega,by omega,congrArg (Value.int .u64) (by omega),congrArg (Value.int .u64) (by omega),by go_num,trivial,K1 ?_⟩;rw [HT.out];rw [hc]
        . have hi0:i=0:=by omega
          subst hi0;have hb1:bits BinOp.and IntKind.u64 (B:Int) 1=1:=by simpa using hbit
          have HT:=K1 (show a*mulT b B (0+1)=a*mulT b B 0+a*2 ^ 0 by rw [Hu (by omega) H2.out,Zy]);have HX:=K1 (show ((0*18446744073709551616+A:Nat):Int)=(a*2 ^ 0) % 340282366920938463463374607431768211456 by have:=HA.out;have:=HAR.out;omega);go_wp2_with fail
          all_goals
           simp only [B9] at *;go_roundw
           case measure=>simp [intOf] <;> omega
           case rel =>
            have hc:=E3 HV.out (HX.out);refine ⟨1,(hi+(lo+A) / 18446744073709551616+0) % 18446744073709551616,(lo+A) % 18446744073709551616,by omega,by omega,by omega,congrArg (Value.int .u64) (by omega),congrArg (Value.int .u64) (by omega),by go_num,trivial,K1 ?_⟩;rw [HT.out];rw [hc]
    . have h6:i=64:=by omega
      subst h6;go_wp2_with fail;have hv:=HV.out;rw [show mulT b B 64=b from if_pos rfl] at hv;refine bodyPost_ret (v:=.tuple #[U O (wrap64 hi),.int .u64 lo]) ?_ rfl ⟨⟨hi,lo,hhi,hlo,rfl,hv⟩,rfl⟩;simp [results,Tryz.results121,go_sem]
theorem QF (b:Nat) (hb:b<9223372036854775808):b ||| 9223372036854775808=b+9223372036854775808:=by
 have e0:(1:Nat) <<< 63=9223372036854775808:=by decide
 have e1:(2:Nat) ^ 63=9223372036854775808:=by decide
 have e:=Nat.shiftLeft_add_eq_or_of_lt (i:=63) (b:=b) (by rw [e1];exact hb) 1;rw [e0] at e;rw [Nat.or_comm,<- e,Nat.add_comm]
theorem QG (hi:Int) (lo:Nat) (hl:lo<18446744073709551616):∃ l2:Nat,l2<18446744073709551616/\bits BinOp.or IntKind.u64 ((lo:Int) / 2) (IntKind.u64.wrap (IntKind.u64.wrap hi*9223372036854775808))=(l2:Int)/\hi / 2*18446744073709551616+(l2:Int)=(hi*18446744073709551616+lo) / 2:=by
 have hd:(lo:Int) / 2=((lo / 2:Nat):Int):=by omega
 have hl2:lo / 2<9223372036854775808:=by omega
 rw [hd]
 rcases (show hi % 2=0\/hi % 2=1 by omega) with h | h
 . have hw:IntKind.u64.wrap (IntKind.u64.wrap hi*9223372036854775808)=((0:Nat):Int):=by rw [B9,B9];omega
   refine ⟨lo / 2,by omega,?_,by omega⟩;rw [hw,bits_or_u64_nat _ _ (by omega) (by omega),Nat.or_zero]
 . have hw:IntKind.u64.wrap (IntKind.u64.wrap hi*9223372036854775808)=((9223372036854775808:Nat):Int):=by rw [B9,B9];omega
   refine ⟨lo / 2+9223372036854775808,by omega,?_,by omega⟩;rw [hw,bits_or_u64_nat _ _ (by omega) (by omega),QF _ hl2]
theorem QH (w:World) (hi:Int) (lo q:Nat) (hq:q<=62) (hh:-9223372036854775808<=hi/\hi<=9223372036854775807) (hl:lo<18446744073709551616) :
  Calls Tryz.prog 122 #[U O hi,.int .u64 lo,U O q] w fun e w'=>e=.returned (U O (wrap64 ((hi*18446744073709551616+lo) / (2:Int) ^ q)))/\w=w':=by
 obtain ⟨V,hV⟩:∃ V,V=hi*18446744073709551616+(lo:Int):=⟨_,rfl⟩
 rw [<- hV];have HV0:=K1 hV.symm;clear hV;go_enter Tryz.func122,Tryz.ntmps122
 go_wp2
 go_loopw [0,1,7] (fun s0 s1 s7 wr=>∃ (i:Nat) (h:Int) (l:Nat),i<=q/\-9223372036854775808<=h/\h<=9223372036854775807/\l<18446744073709551616/\s0=U O h/\s1=.int .u64 l/\s7=U O i/\wr=w/\Hid (h*18446744073709551616+(l:Int)=V / (2:Int) ^ i)) (fun _ _ s7 _=>q-(intOf s7).toNat)
 case atStart=>exact ⟨0,hi,lo,by omega,hh.1,hh.2,hl,rfl,rfl,rfl,rfl,K1 (by rw [HV0.out];simp)⟩
 case round =>
  obtain ⟨i,h,l,hi64,hh1,hh2,hl2,rfl,rfl,rfl,rfl,HV⟩:=hrel
  by_cases hlt:i<q
  . obtain ⟨l2,hl3,f1,hE⟩:=QG h l hl2;have HE:=K1 hE;clear hE;go_wp2_with fail;go_roundw
    case measure=>simp [intOf];omega
    case rel =>
     refine ⟨i+1,h / 2,l2,by omega,by omega,by omega,hl3,rfl,rfl,by go_num,trivial,K1 ?_⟩;rw [HE.out,HV.out,Int.ediv_ediv_of_nonneg (Int.pow_nonneg (by decide)),Int.pow_succ]
  . have hiq:i=q:=by omega
    subst hiq;go_wp2_with fail;go_ret;refine ⟨?_,rfl⟩;rw [<- HV.out]
    have:wrap64 (h*18446744073709551616+(l:Int))=wrap64 (l:Int):=by
     unfold wrap64;omega
    rw [this];rfl
theorem QI {a b:Int} (ha:-9223372036854775808<=a/\a<=9223372036854775807) (hb:-9223372036854775808<=b/\b<=9223372036854775807):-85070591730234615865843651857942052864<=a*b/\a*b<=85070591730234615865843651857942052864:=by
 have h:(a*b).natAbs<=9223372036854775808*9223372036854775808:=by
  rw [Int.natAbs_mul];exact Nat.mul_le_mul (by omega) (by omega)
 omega
theorem Ge (w:World) (a b:Int) (q:Nat) (hq:q<=62) (ha:-9223372036854775808<=a/\a<=9223372036854775807) (hb:-9223372036854775808<=b/\b<=9223372036854775807) :
  Calls Tryz.prog 75 #[U O a,U O b,U O q] w fun e w'=>e=.returned (U O (mulF a b q))/\w=w':=by
 have C1:=K1 (QD w a b ha hb);have hm:=K1 (QI ha hb);have C2:=K1 (fun h l h1 h2=>QH w h l q hq h1 h2);go_enter Tryz.func75,Tryz.ntmps75;go_wp2_with fail;refine C1.out.mono ?_;rintro e w1 ⟨⟨hi,lo,hhi,hlo,rfl,hv⟩,rfl⟩
 obtain ⟨h,hh⟩:∃ h,h=wrap64 (hi:Int):=⟨_,rfl⟩
 rw [<- hh];have hhb:-9223372036854775808<=wrap64 (hi:Int)/\wrap64 (hi:Int)<=9223372036854775807:=by unfold wrap64;omega
 rw [<- hh] at hhb
 have hE:=K1 (show h*18446744073709551616+(lo:Int)=a*b by
  have h1:=hm.out;rw [hh];unfold wrap64;rw [Zw,Zx] at hv;generalize a*b=X at *
  omega)
 clear hh hv;go_wp2_with fail;refine (C2.out h lo hhb hlo).mono ?_;rintro e w2 ⟨rfl,rfl⟩;rw [hE.out];go_wp2_with fail;go_ret;exact ⟨rfl,rfl⟩
end
end Go.Proofs.YtdpojpcoghcieaaGreat
