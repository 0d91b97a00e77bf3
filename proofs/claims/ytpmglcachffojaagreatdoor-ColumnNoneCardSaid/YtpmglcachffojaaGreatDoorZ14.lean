/- A part of what None leans on. -/
import Derived.Test.YtpmglcachffojaaGreatDoorZ11
import Derived.Test.YtpmglcachffojaaGreatDoorZ13
import Derived.Lib.SliceRun
set_option maxRecDepth 100000
set_option maxHeartbeats 16000000
namespace Go.Proofs.YtpmglcachffojaaGreatDoor
section
open Go Go.RowKit
theorem xxR (k:Nat) (l:List Int):yyO k l=((upN l).all (·<9223372036854775808)&&zzJ l != -9223372036854775808&&yyx k (zzr k 0 0 (upN l))):=by
 unfold yyO yyx
 simp only [Bool.and_assoc]
theorem uue (w:World) (a:Option Addr) (n c n' c':Nat):(binOp .eql 41 (.slice a n c) (.slice none n' c')).run Tryz.prog w=.ok (.bool a.isNone) w:=Lib.run_eql_slice_nil w _ _ a n c n' c' zzG
theorem uuf (b:Int) (b0 : -9223372036854775808<b) (b1:b<=9223372036854775807) (w:World) :
 Calls Tryz.prog 292 #[.int .i64 b] w fun e w'=>∃ g n c,e=.returned (.slice (some ⟨g,0,none⟩) n c)/\Bs (fun _=>True) w' (some ⟨g,0,none⟩) n c (vvC b)/\Below w.heap.size w w':=by
 refine (kq7 b b0 b1 w).mono ?_
 rintro e w' ⟨A,n,c,rfl,ho,hb⟩
 obtain⟨g,rfl⟩:=ho.own.some1 yyH (by unfold vvC;rw [be];simp)
 exact⟨g,n,c,rfl,ho.bs.any,hb⟩
theorem qzg (F:Nat->Prop) (A:Option Addr) (n c:Nat) (l:List Int) (w:World) (h:Sl tI64 F w A n c l) (hn1:1<=n) (hn:n<=512) (sg:Bool) (hl:zzV sg l) (k:Nat) (hk:k<=63) (hkc:zzZ (k:Int)=((zzQ k:Nat):Int)) (hf:yyO k l=false) :
 Calls Tryz.prog 249 #[.slice A n c,.int .i64 (k:Int),.bool sg] w (zzw none w):=by
 have hlen:=h.len
 have hne:l≠[]:=by intro e;rw [e] at hlen;simp at hlen;omega
 have hml:=hl.least hne
 have HMIN:=zH (yy9 F A n c l w h hne)
 have HH:=zH h;have HNE:=zH hne
 obtain⟨mn,hmn⟩:∃ mn,mn=zzJ l:=⟨_,rfl⟩
 rw [<-hmn] at hml HMIN
 obtain⟨m0,m1,m2⟩:=hml
 have m3:sg=false->¬ mn<0:=fun e=>by rcases m2 with h | h;rw [e] at h;cases h;exact Int.not_lt.2 h
 have HM3:=zH m3
 have HKC:=zH hkc
 rw [xxR,<-hmn] at hf
 obtain⟨cf,hcf⟩:∃ cf,cf=yyx k (zzr k 0 0 (upN l)):=⟨_,rfl⟩
 obtain⟨ga,hga⟩:∃ ga,ga=(upN l).all (·<9223372036854775808):=⟨_,rfl⟩
 rw [<-hcf,<-hga] at hf
 have HCUT:Hid (∀ w1,Below w.heap.size w w1->Calls Tryz.prog 291 #[.slice A n c,.int .i64 (k:Int)] w1 fun e w2=>∃ (b0:Int) (A1 A2:Option Addr) (n1 n2 c1 c2:Nat) (v3 v4:Int) (ok:Bool),e=.returned (.tuple #[.agg #[.int .i64 b0,.slice A1 n1 c1,.slice A2 n2 c2,.int .i64 v3,.int .i64 v4],.bool ok])/\Below w1.heap.size w1 w2 /\ -9223372036854775808<=b0/\b0<=9223372036854775807/\(b0 = -9223372036854775808∨ok=false)):=zH fun w1 hb1=>by
  refine (jjr F A n c l w1 (HH.out.below hb1 zN) HNE.out hn k hk).mono ?_
  rintro e w2 ⟨hb2,he⟩
  rw [<-hga,<-hcf,<-hmn] at he
  cases ga with
  | false =>
    rw [if_neg (by simp)] at he
    exact⟨_,_,_,_,_,_,_,_,_,_,he,hb2,by decide,by decide,.inr rfl⟩
  | true =>
    rw [if_pos rfl] at he
    obtain⟨Al,cl,Ap,np,cp,he,_,_⟩:=he
    refine⟨_,_,_,_,_,_,_,_,_,_,he,hb2,m0,m1,?_⟩
    rw [Bool.true_and] at hf
    rcases Bool.and_eq_false_iff.1 hf with h | h
    · exact .inl (by simpa using h)
    · exact .inr h
 have qT:=uue
 have hn5:¬ (n:Int) > 512:=by omega
 have hn6:¬ (n:Int)<1:=by omega
 have hk6:¬ (k:Int) ≥ 64:=by omega
 clear h hl hlen hne hmn m2 m3 hkc hf hcf hga m0 m1
 go_enter Tryz.func249,Tryz.ntmps249
 go_upto_region 1 with fail
 go_cut [44] from 19 to 44 (fun v wx=>∃ wd,wd=wx/\v=.bool false/\Below w.heap.size w wd)
 case first =>
  cases sg with
  | true =>
    go_wp2_with (first
     | (go_at_call 287;refine (zzN (k:Int) _).mono ?_;rintro e w4 ⟨rfl,hb4⟩;rw [HKC.out];have HB4:=zH hb4;clear hb4)
     | fail)
    go_meet
    exact⟨_,rfl,by congr 1;simp;omega,HB4.out⟩
  | false =>
    have m3:=HM3.out rfl
    go_wp2_with (first
     | (go_at_call 205;refine HMIN.out.mono ?_;rintro e w1 ⟨rfl,rfl⟩)
     | (go_at_call 287;refine (zzN (k:Int) _).mono ?_;rintro e w4 ⟨rfl,hb4⟩;rw [HKC.out];have HB4:=zH hb4;clear hb4)
     | fail)
    go_meet
    exact⟨_,rfl,by congr 1;simp;omega,HB4.out⟩
 case rest =>
  obtain⟨wx,rfl,rfl,hb⟩:=hcut
  have HB:=zH hb
  clear hb HMIN HM3 HKC
  refine ‹∀ (a:Act) (w_1:World),Code.wp _ _ _ a w_1->_› _ _ ?_
  go_upto_region 4 with (first
   | (go_at_call 291;refine (HCUT.out _ HB.out).mono ?_;rintro e w2 ⟨b0,A1,A2,n1,n2,c1,c2,v3,v4,ok,rfl,hb2,x0,x1,hor⟩;have HB2:=zH hb2;have HOR:=zH hor;clear hb2 hor)
   | fail)
  have k0:(w2.alloc (.cells #[.int .i64 b0,.slice A1 n1 c1,.slice A2 n2 c2,.int .i64 v3,.int .i64 v4] 328)).cell? ⟨w2.heap.size,0,none⟩=some (.int .i64 b0):=by rw [zC (heap_alloc_new _ _)];rfl
  obtain⟨w3,hw3⟩:∃ w3,w3=w2.alloc (.cells #[.int .i64 b0,.slice A1 n1 c1,.slice A2 n2 c2,.int .i64 v3,.int .i64 v4] 328):=⟨_,rfl⟩
  have hb3:Below w.heap.size w w3:=by
   have h2:=HB.out.trans (HB2.out.mono HB.out.size)
   rw [hw3];exact h2.alloc h2.size _
  rw [<-hw3] at k0 ⊢
  have HB3:=zH hb3
  clear hw3 hb3 HB HB2
  by_cases hz:b0 = -9223372036854775808
  · subst hz
    cases ok with
    | true =>
      go_wp2_with (first
       | (go_at_call 292;refine (xxO _).mono ?_;rintro e w4 ⟨rfl,hb4⟩;have HB4:=zH hb4;clear hb4)
       | fail)
      go_ret2
      exact⟨HB3.out.trans (HB4.out.mono HB3.out.size),rfl⟩
    | false =>
      go_wp2_with (first
       | (go_at_call 292;refine (xxO _).mono ?_;rintro e w4 ⟨rfl,hb4⟩;have HB4:=zH hb4;clear hb4)
       | fail)
      go_ret2
      exact⟨HB3.out.trans (HB4.out.mono HB3.out.size),rfl⟩
  · obtain rfl:ok=false:=HOR.out.resolve_left hz
    have hb0 : -9223372036854775808<b0:=by omega
    clear hz HOR
    go_wp2_with (first
     | (go_at_call 292;refine (uuf b0 hb0 x1 _).mono ?_;rintro e w4 ⟨g4,n4,c4,rfl,_,hb4⟩;have HB4:=zH hb4;clear hb4)
     | fail)
    go_ret2
    exact⟨HB3.out.trans (HB4.out.mono HB3.out.size),rfl⟩
end
section
open Go Go.RowKit
theorem sl5 {α:Type} {T:Ty α} {F1 F2 F3 F4 F5:Nat->Prop} {w:World} {A1 A2 A3 A4 A5:Option Addr} {n1 n2 n3 n4 n5 c1 c2 c3 c4 c5:Nat} {x1 x2 x3 x4 x5:List α} (h1:Sl T F1 w A1 n1 c1 x1) (h2:Sl T F2 w A2 n2 c2 x2) (h3:Sl T F3 w A3 n3 c3 x3) (h4:Sl T F4 w A4 n4 c4 x4) (h5:Sl T F5 w A5 n5 c5 x5) (t:TypeId) :
 Sl (tSl T) (fun _=>True) (w.alloc (.cells #[.slice A1 n1 c1,.slice A2 n2 c2,.slice A3 n3 c3,.slice A4 n4 c4,.slice A5 n5 c5] t)) (some ⟨w.heap.size,0,none⟩) 5 5 [x1,x2,x3,x4,x5]:=by
 have hr:Reps (tSl T) (fun _=>True) w [[.slice A1 n1 c1],[.slice A2 n2 c2],[.slice A3 n3 c3],[.slice A4 n4 c4],[.slice A5 n5 c5]] [x1,x2,x3,x4,x5]:=by simpa using Reps.snoc (Reps.mk4 h1.any.rep h2.any.rep h3.any.rep h4.any.rep) h5.any.rep
 exact (Sl.news hr t 5 rfl (by omega) _ rfl).any
structure PpR (w0:World) (r8:Nat) (base:Int) (Al:Option Addr) (nl cl:Nat) (low:List Nat) (Ap:Option Addr) (np cp:Nat) (ps:List (Nat×Nat)) (g q:Nat) (A3:Nat) (s3 c3:Nat) (bs:List UInt8) (w:World):Prop where
 below:Below w0.heap.size w0 w
 run:w.heap[r8]?=some (.cells #[.int .i64 base,.slice Al nl cl,.slice Ap np cp,.int .i64 (g:Int),.int .i64 (q:Int)] 328 (0,0))
 low:Sl tU64 (fun _=>True) w Al nl cl low
 ps:Sl vv9 (fun _=>True) w Ap np cp ps
 base:Bs (fun _=>True) w (some ⟨A3,0,none⟩) s3 c3 bs
section
variable {w0 w w':World} {r8:Nat} {base:Int} {Al Ap:Option Addr} {nl cl np cp A3 s3 c3:Nat} {low:List Nat} {ps:List (Nat×Nat)} {g q:Nat} {bs:List UInt8}
theorem PpR.keep (h:PpR w0 r8 base Al nl cl low Ap np cp ps g q A3 s3 c3 bs w) (hb:Below w.heap.size w w'):PpR w0 r8 base Al nl cl low Ap np cp ps g q A3 s3 c3 bs w' :=
 ⟨h.below.trans (hb.mono h.below.size),(hb.block r8 (zzc h.run)).trans h.run,h.low.below hb zN,h.ps.below hb zN,h.base.below hb zN⟩
theorem PpR.drew (h:PpR w0 r8 base Al nl cl low Ap np cp ps g q A3 s3 c3 bs w):PpR w0 r8 base Al nl cl low Ap np cp ps g q A3 s3 c3 bs w.drew :=
 ⟨h.below.drew,h.run,h.low.drew,h.ps.drew,h.base.drew⟩
theorem PpR.cells (h:PpR w0 r8 base Al nl cl low Ap np cp ps g q A3 s3 c3 bs w):w.cell? ⟨r8,0,none⟩=some (.int .i64 base)/\w.cell? ⟨r8,1,none⟩=some (.slice Al nl cl)/\w.cell? ⟨r8,2,none⟩=some (.slice Ap np cp)/\w.cell? ⟨r8,3,none⟩=some (.int .i64 (g:Int))/\w.cell? ⟨r8,4,none⟩=some (.int .i64 (q:Int)):=by
 refine⟨?_,?_,?_,?_,?_⟩
 iterate 5 (rw [zC h.run];rfl)
end
theorem jjY {ps:List (Nat×Nat)} {x:Nat×Nat} (hx:x∈ps) (h1:x.1<9223372036854775808) (h2:U64 x.2):x.1<2 ^ gapW ps/\x.2<2 ^ patM ps:=by
 have a1:=xx6 (x:=x.1) (Nat.lt_trans h1 (by decide))
 have a2:=xx6 h2
 have b1:bl x.1<=gapW ps:=by have:=xxp (l:=ps.map (·.1)) (x:=x.1) (List.mem_map.2 ⟨x,hx,rfl⟩);unfold gapW;omega
 have b2:bl x.2<=patM ps:=by have:=xxp (l:=ps.map (·.2)) (x:=x.2) (List.mem_map.2 ⟨x,hx,rfl⟩);unfold patM;omega
 exact⟨Nat.lt_of_lt_of_le a1 (Nat.pow_le_pow_right (by decide) b1),Nat.lt_of_lt_of_le a2 (Nat.pow_le_pow_right (by decide) b2)⟩
theorem vvm (w:Nat):∀ (us:List Nat) (i la:Nat),(∀ x∈us,U64 x)->∀ p∈zzr w i la us,U64 p.2
 | [],_,_,_,p,hp=>by simp [zzr] at hp
 | y::r,i,la,h,p,hp=>by
   rw [yyl] at hp
   rcases List.mem_append.1 hp with hp | hp
   · unfold uua at hp
     split at hp
     · simp at hp
     · rcases List.mem_append.1 hp with hp | hp
       · rw [(List.mem_replicate.1 hp).2];show (0:Nat)<_;decide
       · rw [List.mem_singleton.1 hp]
         exact Nat.lt_of_le_of_lt (Nat.div_le_self _ _) (h y (by simp))
   · exact vvm w r _ _ (fun x hx=>h x (by simp [hx])) p hp
theorem uuR {a b g q:Nat} (ha:a<2 ^ g) (hb:b<2 ^ q):a*2 ^ q+b<2 ^ (g+q):=by
 rw [Nat.pow_add]
 have:(a+1)*2 ^ q<=2 ^ g*2 ^ q:=Nat.mul_le_mul_right _ ha
 rw [Nat.add_mul,Nat.one_mul] at this
 omega
theorem uug (a b:Nat) (h1:1<=a) (ha:a<=1000) (hb:b<32):IntKind.u8.wrap (bits BinOp.or IntKind.i64 (IntKind.i64.wrap (IntKind.i64.wrap ((a:Int) - 1)*32)) (b:Int))=(((UInt8.ofNat (32*(a - 1)+b)).toNat:Nat):Int):=by
 have e1:IntKind.i64.wrap ((a:Int) - 1)=((a - 1:Nat):Int):=by rw [IntKind.wrap_i64];omega
 have e2:IntKind.i64.wrap (((a - 1:Nat):Int)*32)=((32*(a - 1):Nat):Int):=by rw [IntKind.wrap_i64];omega
 rw [e1,e2,yyC _ _ (by omega) (by omega),nat_join 5 (32*(a - 1)) b (by omega) (by omega),IntKind.wrap_u8,UInt8.toNat_ofNat']
 omega
theorem qxK {a b g q:Nat} (ha:a<2 ^ g) (hb:b<2 ^ q) (h:g+q<=64):bits BinOp.or IntKind.u64 (IntKind.u64.wrap ((a:Int)*2 ^ q)) (b:Int)=((a*2 ^ q+b:Nat):Int):=by
 have h1:=uuR ha hb
 have h2:2 ^ (g+q)<=2 ^ 64:=Nat.pow_le_pow_right (by decide) h
 have e:IntKind.u64.wrap ((a:Int)*2 ^ q)=((a*2 ^ q:Nat):Int):=by
  rw [show (a:Int)*2 ^ q=((a*2 ^ q:Nat):Int) by simp,IntKind.wrap_u64]
  omega
 rw [e,u64_or_nat _ _ (by omega) (by omega),nat_join q (a*2 ^ q) b (Nat.mul_mod_left _ _) hb]
theorem Sl.all {α:Type} {T:Ty α} {F:Nat->Prop} {w:World} {A:Option Addr} {n c:Nat} {xs:List α} (h:Sl T F w A n c xs):∀ x∈xs,∃ cs,T.rep F w cs x:=by
 obtain⟨_,_,_,css,_,h2⟩:=h
 intro x hx
 obtain⟨i,hi,rfl⟩:=List.getElem_of_mem hx
 exact⟨_,h2.2 i _ _ (List.getElem?_eq_getElem (by rw [h2.1];exact hi)) (List.getElem?_eq_getElem hi)⟩
theorem qzh (F:Nat->Prop) (A:Option Addr) (n c:Nat) (l:List Int) (w:World) (h:Sl tI64 F w A n c l) (hn1:1<=n) (hn:n<=512) (sg:Bool) (hl:zzV sg l) (k:Nat) (hk:k<=63) (hkc:zzZ (k:Int)=((zzQ k:Nat):Int)) (hf:yyO k l=true) :
 Calls Tryz.prog 249 #[.slice A n c,.int .i64 (k:Int),.bool sg] w (zzw (patB k l) w):=by
 have hlen:=h.len
 have hne:l≠[]:=by intro e;rw [e] at hlen;simp at hlen;omega
 have hml:=hl.least hne
 have HMIN:=zH (yy9 F A n c l w h hne)
 have HH:=zH h;have HNE:=zH hne
 have HFIT:=zH hf
 obtain⟨ps,hps⟩:∃ ps,ps=zzr k 0 0 (upN l):=⟨_,rfl⟩
 obtain⟨mn,hmn⟩:∃ mn,mn=zzJ l:=⟨_,rfl⟩
 rw [<-hmn] at hml HMIN
 obtain⟨m0,m1,m2⟩:=hml
 have m3:sg=false->¬ mn<0:=fun e=>by rcases m2 with h | h;rw [e] at h;cases h;exact Int.not_lt.2 h
 have HM3:=zH m3
 have HKC:=zH hkc
 rw [xxR,<-hmn,<-hps] at hf
 simp only [Bool.and_eq_true,yyx,decide_eq_true_eq,bne_iff_ne,ne_eq] at hf
 obtain⟨⟨hga,hmn2⟩,⟨hp31,hgq⟩,hkq⟩:=hf
 obtain⟨g,hg⟩:∃ g,g=gapW ps:=⟨_,rfl⟩
 obtain⟨q,hq⟩:∃ q,q=patW ps:=⟨_,rfl⟩
 obtain⟨low,hlow⟩:∃ low,low=(upN l).map (· % 2 ^ k):=⟨_,rfl⟩
 rw [<-hg,<-hq] at hgq
 have hcfit:yyx k ps=true:=by simp only [Bool.and_eq_true,yyx,decide_eq_true_eq,<-hg,<-hq];exact⟨⟨hp31,hgq⟩,by rw [<-hq] at hkq;exact hkq⟩
 have HCUT:Hid (∀ w1,Below w.heap.size w w1->Calls Tryz.prog 291 #[.slice A n c,.int .i64 (k:Int)] w1 fun e w2=>∃ (Al Ap:Option Addr) (cl np cp:Nat),e=.returned (.tuple #[.agg #[.int .i64 mn,.slice Al n cl,.slice Ap np cp,.int .i64 (g:Int),.int .i64 (q:Int)],.bool true]) /\
  Below w1.heap.size w1 w2/\Sl tU64 (fun _=>True) w2 Al n cl low/\Sl vv9 (fun _=>True) w2 Ap np cp ps):=zH fun w1 hb1=>by
  refine (jjr F A n c l w1 (HH.out.below hb1 zN) HNE.out hn k hk).mono ?_
  rintro e w2 ⟨hb2,he⟩
  rw [if_pos hga,<-hps,<-hmn,<-hg,<-hq,<-hlow,hcfit] at he
  obtain⟨Al,cl,Ap,np,cp,he,h1,h2⟩:=he
  exact⟨Al,Ap,cl,np,cp,he,hb2,h1,h2⟩
 have hb0 : -9223372036854775808<mn:=by omega
 obtain⟨bs,hbs⟩:∃ bs,bs=vvC mn:=⟨_,rfl⟩
 have hbl:bs.length=bl mn.natAbs / 8+1:=by rw [hbs];unfold vvC;rw [zzY]
 have hbl2:bl mn.natAbs<=64:=yyd (show mn.natAbs<18446744073709551616 by omega)
 have hb9:1<=bs.length/\bs.length<=9:=by omega
 have HBASE:Hid (∀ w1,Calls Tryz.prog 292 #[.int .i64 mn] w1 fun e w'=>∃ g n c,e=.returned (.slice (some ⟨g,0,none⟩) n c)/\Bs (fun _=>True) w' (some ⟨g,0,none⟩) n c bs/\Below w1.heap.size w1 w'):=zH fun w1=>by rw [hbs];exact uuf mn hb0 m1 w1
 obtain⟨z,hz⟩:∃ z,z=zzm (g+q):=⟨_,rfl⟩
 have hz1:=yyY hgq
 have hz2:=yyu (g+q)
 rw [<-hz] at hz1 hz2
 obtain⟨both,hboth⟩:∃ both,both=ps.map fun x=>x.1*2 ^ q+x.2:=⟨_,rfl⟩
 obtain⟨y1,hy1⟩:∃ y1:UInt8,y1=UInt8.ofNat (32*(bs.length - 1)+zzQ q):=⟨_,rfl⟩
 obtain⟨y2,hy2⟩:∃ y2:UInt8,y2=UInt8.ofNat (32*(g - 1)+ps.length):=⟨_,rfl⟩
 have HDEL:Hid (patB k l=some (zz5 2 (zzQ k) n++[y1,y2]++bs++pack k low++pack z both)):=zH (by
  unfold patB
  dsimp only
  rw [HFIT.out,if_pos rfl,<-hps,<-hmn,<-hbs,<-hq,<-hg,<-hlow,<-hz,<-hboth,<-hy1,<-hy2,<-hlen])
 have hpm:patM ps<=64:=(qzf ps fun x hx=>by
  rw [hps] at hx
  refine vvm k (upN l) 0 0 (fun y hy=>?_) x hx
  have:=List.all_eq_true.1 hga y hy
  exact Nat.lt_trans (by simpa using this) (by decide)).2
 have hqc:zzZ (q:Int)=((zzQ q:Nat):Int)/\zzQ q<=31:=by rw [hq,vvJ];exact vvB hpm
 have hlows:∀ x∈low,x<2 ^ k:=fun x hx=>by
  rw [hlow] at hx
  obtain⟨y,_,rfl⟩:=List.mem_map.1 hx
  exact Nat.mod_lt _ (Nat.pow_pos (by decide))
 have HLOWS:=zH hlows;have HQC:=zH hqc;have HG:=zH hg;have HQ:=zH hq;have HZ:=zH hz;have HBOTH:=zH hboth;have HY1:=zH hy1;have HY2:=zH hy2;have HB9:=zH hb9
 have HPQ:Hid (∀ x∈ps,x.1<9223372036854775808->U64 x.2->x.1<2 ^ g/\x.2<2 ^ q):=zH fun x hx h1 h2=>by
  have h3:=jjY hx h1 h2
  rw [<-hg] at h3
  refine⟨h3.1,Nat.lt_of_lt_of_le h3.2 (Nat.pow_le_pow_right (by decide) ?_)⟩
  rw [hq,vvJ]
  exact (yyY hpm).1
 have HG1:=zH (show 1<=g by rw [hg];unfold gapW;omega)
 have HBLEN:=zH (show both.length<=31 by rw [hboth,List.length_map];exact hp31)
 have HCK:=zH (show zzQ k<=31 by have:=xxH (k:Int);omega)
 have qT:=uue
 have hn5:¬ (n:Int) > 512:=by omega
 have hn6:¬ (n:Int)<1:=by omega
 have hk6:¬ (k:Int) ≥ 64:=by omega
 clear h hl hlen hne hmn m2 m3 hkc hga hps hg hq hlow hcfit hbs hbl hbl2 hb9 hz hboth hy1 hy2 hkq hqc hlows hmn2 hpm
 go_enter Tryz.func249,Tryz.ntmps249
 go_upto_region 1 with fail
 go_cut [44] from 19 to 44 (fun v wx=>∃ wd,wd=wx/\v=.bool false/\Below w.heap.size w wd)
 case first =>
  cases sg with
  | true =>
    go_wp2_with (first
     | (go_at_call 287;refine (zzN (k:Int) _).mono ?_;rintro e w4 ⟨rfl,hb4⟩;rw [HKC.out];have HB4:=zH hb4;clear hb4)
     | fail)
    go_meet
    exact⟨_,rfl,by congr 1;simp;omega,HB4.out⟩
  | false =>
    have m3:=HM3.out rfl
    go_wp2_with (first
     | (go_at_call 205;refine HMIN.out.mono ?_;rintro e w1 ⟨rfl,rfl⟩)
     | (go_at_call 287;refine (zzN (k:Int) _).mono ?_;rintro e w4 ⟨rfl,hb4⟩;rw [HKC.out];have HB4:=zH hb4;clear hb4)
     | fail)
    go_meet
    exact⟨_,rfl,by congr 1;simp;omega,HB4.out⟩
 case rest =>
  obtain⟨wx,rfl,rfl,hb⟩:=hcut
  have HB:=zH hb
  clear hb HMIN HM3
  refine ‹∀ (a:Act) (w_1:World),Code.wp _ _ _ a w_1->_› _ _ ?_
  go_upto_region 4 with (first
   | (go_at_call 291;refine (HCUT.out _ HB.out).mono ?_;rintro e w2 ⟨Al,Ap,cl,np,cp,rfl,hb2,hlw,hpw⟩;have HB2:=zH hb2;have HLW:=zH hlw;have HPW:=zH hpw;clear hb2 hlw hpw)
   | fail)
  obtain⟨r8,hr8⟩:∃ r8,r8=w2.heap.size:=⟨_,rfl⟩
  obtain⟨w3,hw3⟩:∃ w3,w3=w2.alloc (.cells #[.int .i64 mn,.slice Al n cl,.slice Ap np cp,.int .i64 (g:Int),.int .i64 (q:Int)] 328):=⟨_,rfl⟩
  rw [<-hw3,<-hr8]
  have HR8:=zH (show w3.heap[r8]?=some (.cells #[.int .i64 mn,.slice Al n cl,.slice Ap np cp,.int .i64 (g:Int),.int .i64 (q:Int)] 328 (0,0)) by rw [hw3,hr8];exact heap_alloc_new _ _)
  have k0:w3.cell? ⟨r8,0,none⟩=some (.int .i64 mn):=by rw [zC HR8.out];rfl
  have hb3:Below w2.heap.size w2 w3:=by rw [hw3];exact (zR).alloc zN _
  have HB3:=zH hb3
  clear hw3 hb3 hr8
  go_upto_region 8 with (first
   | (go_at_call 292;refine (HBASE.out _).mono ?_;rintro e w4 ⟨A3,s3,c3,rfl,hbs4,hb4⟩;have HB4:=zH hb4;have HBS4:=zH hbs4;clear hb4 hbs4)
   | fail)
  have hpp:PpR w r8 mn Al n cl low Ap np cp ps g q A3 s3 c3 bs w4:=by
   have h2:=HB.out.trans (HB2.out.mono HB.out.size)
   have h3:=h2.trans (HB3.out.mono h2.size)
   refine⟨h3.trans (HB4.out.mono h3.size),(HB4.out.block r8 (zzc HR8.out)).trans HR8.out,?_,?_,HBS4.out⟩
   · exact (HLW.out.below HB3.out zN).below HB4.out zN
   · exact (HPW.out.below HB3.out zN).below HB4.out zN
  have HPP:=zH hpp
  have HNP:=zH hpp.ps.len
  obtain⟨p0,p1,p2,p3,p4⟩:=hpp.cells
  clear hpp HB HB2 HB3 HB4 HLW HPW HBS4 HR8 k0 HCUT HBASE HFIT HNE
  go_wp2_with fail
  go_loopw [11,63] (fun bv iv wr=>∃ (i:Nat) (A2:Option Addr) (c2:Nat),i<=np/\iv=.int .i64 (i:Int)/\bv=.slice A2 i c2/\OwnU wr w4.heap.size A2 i c2 (both.take i)/\Below w4.heap.size w4 wr)
   (fun _ iv _=>np - (intOf iv).toNat)
  case atStart=>exact⟨0,none,0,Nat.zero_le _,rfl,rfl,xxr _ _,zR⟩
  case round =>
   obtain⟨i,A2,c2,hi,rfl,rfl,ho,hb⟩:=hrel
   have HO:=zH ho;have HB:=zH hb
   clear ho hb
   by_cases hlt:i<np
   · have hik:i<ps.length:=by rw [<-HNP.out];exact hlt
     have hsl:=(HPP.out.keep HB.out).ps
     obtain⟨b,o,cs,hA,_,hbl,hr,hc⟩:=hsl.at_ hik (by decide)
     obtain⟨a,ha⟩:∃ a,a=(ps[i]).1:=⟨_,rfl⟩
     obtain⟨bp,hbp⟩:∃ bp,bp=(ps[i]).2:=⟨_,rfl⟩
     obtain⟨hr,hr1,hr2⟩:=hr
     have hab:=HPQ.out _ (List.getElem_mem hik) hr1 hr2
     rw [<-ha] at hr hr1 hab
     rw [<-hbp] at hr hr2 hab
     subst hr
     obtain⟨c0,c1⟩:=vvb hc
     have HOR:=zH (qxK hab.1 hab.2 hgq)
     obtain⟨v,hv⟩:∃ v,v=a*2 ^ q+bp:=⟨_,rfl⟩
     have hv64:U64 v:=by
      rw [hv];exact Nat.lt_of_lt_of_le (uuR hab.1 hab.2) (Nat.pow_le_pow_right (by decide) hgq)
     rw [<-hv] at HOR
     have HTK:=zH (show both.take (i+1)=both.take i++[v] by
      have hb1:i<both.length:=by rw [HBOTH.out,List.length_map];exact hik
      have hb2:both[i]=v:=by simp only [HBOTH.out,List.getElem_map];rw [hv,ha,hbp]
      rw [zT hb1,hb2])
     have HV64:=zH hv64
     have xw:IntKind.u64.wrap (a:Int)=(a:Int):=by rw [IntKind.wrap_u64];omega
     have i0:(0:Int)<=(i:Int):=by omega
     have i1:(i:Int)<(np:Int):=by omega
     have k4:=zzt HB.out p4
     clear hab ha hbp hv hv64 hc hsl hr1 hr2
     subst hA
     go_upto_region 11 with fail
     obtain⟨w5,hw5⟩:∃ w5,w5=wr.alloc (.cells #[.int .i64 (a:Int),.int .u64 (bp:Int)] 332):=⟨_,rfl⟩
     have hb5:Below wr.heap.size wr w5:=by rw [hw5];exact (zR).alloc zN _
     have d0:w5.cell? ⟨wr.heap.size,0,none⟩=some (.int .i64 (a:Int)):=by rw [hw5,zC (heap_alloc_new _ _)];rfl
     have d1:w5.cell? ⟨wr.heap.size,1,none⟩=some (.int .u64 (bp:Int)):=by rw [hw5,zC (heap_alloc_new _ _)];rfl
     have k4':=zzt hb5 k4
     rw [<-hw5]
     have HO5:=zH (zzR (HO.out.keepB hb5)).drew;have HB5:=zH (HB.out.trans (hb5.mono HB.out.size)).drew
     clear c0 c1 k4 hw5 hb5
     go_region_law (first
      | (refine xxa (T:=tU64) uuN w5 w4 rfl (.tmp 67) (.tmp 77) rfl w4.heap.size A2 i c2 _ rfl (fun _=>False) (fun _=>False) HO5.out HB5.out zN _ rfl [.int .u64 (v:Int)] v ⟨rfl,HV64.out⟩ 112 (by rw [HOR.out]) (fun _ _ _ _ h=>h) (by omega) ?_;intro A6 c6 w6 h6
         have HA6:=zH (zzR h6.own);have HB6:=zH h6.below
         clear h6)
      | fail)
     all_goals
      go_wp2_with fail
      go_roundw
      case rel=>exact⟨i+1,A6,c6,by omega,by go_num,rfl,by rw [HTK.out];exact HA6.out,HB6.out⟩
      case measure=>simp [intOf];omega
   · obtain rfl:np=i:=by omega
     have hfin:both.take np=both:=zL (by rw [HBOTH.out,List.length_map,<-HNP.out];exact Nat.le_refl _)
     rw [hfin] at HO
     have HW:=zH (HPP.out.keep HB.out)
     have hbsl:=HO.out.sl.any
     have hnp31:np<=31:=by rw [HNP.out];exact hp31
     have HBL:=zH hbsl
     have hwb:=HB.out.size
     have HBW:=zH hwb
     have hbz:∀ x∈both,x<2 ^ z:=fun x hx=>by
      rw [HBOTH.out] at hx
      obtain⟨y,hy,rfl⟩:=List.mem_map.1 hx
      obtain⟨cs,hcs⟩:=HPP.out.ps.all y hy
      have h3:=HPQ.out y hy hcs.2.1 hcs.2.2
      exact Nat.lt_of_lt_of_le (uuR h3.1 h3.2) (Nat.pow_le_pow_right (by decide) hz1.1)
     have HBZ:=zH hbz
     obtain⟨q0,q1,q2,q3,q4⟩:=HW.out.cells
     have HSUM:=zH (show (g:Int)+(q:Int)=((g+q:Nat):Int) by omega)
     clear hfin HO HB HPP p0 p1 p2 p3 p4 hbsl hbz hwb hlt HPQ
     go_upto_region 14 with (first
      | (go_at_call 285;refine (xxq _ Al n cl low _ HW.out.low (by omega) k (by omega) HLOWS.out).mono ?_;rintro e w6 ⟨A6,s6,c6,rfl,ho6,hb6⟩;have HO6:=zH ho6.bs.any;have HW6:=zH (HW.out.keep hb6);have HBL6:=zH (HBL.out.below hb6 zN);clear ho6 hb6)
      | fail)
     clear q0 q1 q2 q3 q4
     obtain⟨q0,q1,q2,q3,q4⟩:=HW6.out.cells
     go_upto_region 17 with (first
      | (go_at_call 283;rw [HSUM.out];refine (yyB (g+q) hgq _).mono ?_;rintro e w7 ⟨rfl,hb7⟩;rw [<-HZ.out];have HO7:=zH (HO6.out.below hb7 zN);have HW7:=zH (HW6.out.keep hb7);have HBL7:=zH (HBL6.out.below hb7 zN);clear hb7)
      | (go_at_call 285;refine (xxq _ A2 np c2 both _ HBL7.out (by omega) z hz2 HBZ.out).mono ?_;rintro e w9 ⟨A9,s9,c9,rfl,ho9,hb9⟩;have HO9:=zH ho9.bs.any;have HW9:=zH (HW7.out.keep hb9);have HP9:=zH (HO7.out.below hb9 zN);clear ho9 hb9)
      | fail)
     clear q0 q1 q2 q3 q4 HW HW6 HW7 HO6 HO7 HBL HBL6 HBL7
     obtain⟨q0,q1,q2,q3,q4⟩:=HW9.out.cells
     have HS3:=zH HW9.out.base.len
     go_region_held3 (fun w'=>w'.cell? ⟨r8,2,none⟩=some (.slice Ap np cp)/\w'.cell? ⟨r8,3,none⟩=some (.int .i64 (g:Int))/\w'.cell? ⟨r8,4,none⟩=some (.int .i64 (q:Int)))
      (first | exact⟨q2,q3,q4⟩ | exact⟨zzt (W:=w9.drew) hb10 q2,zzt (W:=w9.drew) hb10 q3,zzt (W:=w9.drew) hb10 q4⟩ | go_keep)
      (first
        | (go_at_call 287;refine (zzN (q:Int) _).mono ?_;rintro e w10 ⟨rfl,hb10⟩;rw [HQC.out.1])
        | fail)
     have he1:=uug s3 (zzQ q) (by have:=HS3.out;have:=HB9.out;omega) (by have:=HS3.out;have:=HB9.out;omega) (by have:=HQC.out.2;omega)
     rw [HS3.out,<-HY1.out,<-HS3.out] at he1
     have he2:=uug g np (by have:=HG1.out;omega) (by omega) (by omega)
     rw [HNP.out,<-HY2.out,<-HNP.out] at he2
     rw [he1,he2]
     have HW10:=zH (HW9.out.drew.keep hb10)
     have HP10:=zH (HP9.out.drew.below hb10 zN)
     have HO10:=zH (HO9.out.drew.below hb10 zN)
     obtain⟨w11,hw11⟩:∃ w11,w11=w10.alloc (.cells #[.int .u8 ((y1.toNat:Nat):Int),.int .u8 ((y2.toNat:Nat):Int)] 5):=⟨_,rfl⟩
     have hb11:Below w10.heap.size w10 w11:=by rw [hw11];exact (zR).alloc zN _
     have hy:OwnB w11 w10.heap.size (some ⟨w10.heap.size,0,none⟩) 2 2 [y1,y2]:=by rw [hw11];exact World.ownsRow_lit w10 #[.int .u8 ((y1.toNat:Nat):Int),.int .u8 ((y2.toNat:Nat):Int)] 2 zN (by simp [maxLen]) rfl
     have HYS:=zH hy.bs.any
     have HW11:=zH (HW10.out.keep hb11)
     have HP11:=zH (HP10.out.below hb11 zN)
     have HO11:=zH (HO10.out.below hb11 zN)
     rw [<-hw11]
     clear hw11 hb11 hy he1 he2 hb10 q0 q1 q2 q3 q4 HW9 HW10 HP9 HP10 HO9 HO10
     go_wp2_with (first
      | (go_at_call 287;refine (zzN (k:Int) _).mono ?_;rintro e w12 ⟨rfl,hb12⟩;rw [HKC.out];have HW12:=zH (HW11.out.keep hb12);have HP12:=zH (HP11.out.below hb12 zN);have HO12:=zH (HO11.out.below hb12 zN);have HY12:=zH (HYS.out.below hb12 zN);clear hb12)
      | (go_at_call 286;refine (vvG 2 (zzQ k) n (by omega) HCK.out hn1 hn _).mono ?_;rintro e w13 ⟨A13,n13,c13,rfl,ho13,hb13⟩
         have HSS:=zH (sl5 ho13.bs (HY12.out.below hb13 zN) (HW12.out.keep hb13).base (HP12.out.below hb13 zN) (HO12.out.below hb13 zN) 41)
         have HW13:=zH (HW12.out.keep hb13)
         have HN:=zH (show [zz5 2 (zzQ k) n,[y1,y2],bs,pack k low,pack z both].flatten.length<=4294967296 by have h1:=zz0 low.length k (by omega);have h2:=HW12.out.low.len;have h3:=zz0 both.length z hz2;have h4:=HBLEN.out;have h5:=HB9.out;simp [xxl,zz5];omega)
         clear ho13 hb13)
      | (go_at_call 224;refine (yyk (T:=tU8) zzF (fun _=>True) _ _ _ [zz5 2 (zzQ k) n,[y1,y2],bs,pack k low,pack z both] _ HSS.out (by omega) HN.out).mono ?_;rintro e w14 ⟨A14,n14,c14,rfl,ho14,hb14⟩;have HO14:=zH ho14;have HB14:=zH hb14;clear ho14 hb14)
      | fail)
     go_ret2
     have b13:=HW13.out.below
     have b14:=b13.alloc b13.size (.cells #[.slice A13 n13 c13,.slice (some ⟨w10.heap.size,0,none⟩) 2 2,.slice (some ⟨A3,0,none⟩) s3 c3,.slice A6 s6 c6,.slice A9 s9 c9] 41)
     have hc14:=b14.size
     rw [HDEL.out]
     refine⟨b14.trans (HB14.out.mono hc14),A14,n14,c14,rfl,?_⟩
     have:=zz7 (HO14.out.down hc14)
     simpa using this
theorem jjs (F:Nat->Prop) (A:Option Addr) (n c:Nat) (l:List Int) (w:World) (h:Sl tI64 F w A n c l) (hn1:1<=n) (hn:n<=512) (sg:Bool) (hl:zzV sg l) (k:Nat) (hk:k<=63) (hkc:zzZ (k:Int)=((zzQ k:Nat):Int)) :
 Calls Tryz.prog 249 #[.slice A n c,.int .i64 (k:Int),.bool sg] w (zzw (patB k l) w):=by
 by_cases hf:yyO k l=true
 · exact qzh F A n c l w h hn1 hn sg hl k hk hkc hf
 · have hf2:yyO k l=false:=by simpa using hf
   have he:patB k l=none:=by unfold patB;dsimp only;rw [hf2,if_neg (by simp)]
   rw [he]
   exact qzg F A n c l w h hn1 hn sg hl k hk hkc hf2
end
end Go.Proofs.YtpmglcachffojaaGreatDoor
