/-
  Part 7 of the proof: no condition. (Parts of the abstract layer, of the program's functions in its form, and of their contracts.)
-/
import Derived.Test.YtahmkkjcchnonaaGreatDoorTa3
import Derived.Test.YtahmkkjcchnonaaGreatDoorProg
import Derived.KernelRfl
import Derived.RangeFuncBox
import Derived.RangeFuncLeaves
import Derived.RangeFuncNested
import Derived.RangeFuncBound
import Derived.RangeFuncCalls
import Derived.Shelf.Abstract
import Derived.Shelf.RegionOpen
import Derived.WalkKit
import Derived.OwnWalkIn
import Derived.TacticsInMore
import Derived.LoopNIn
import Derived.LoopIn
import Derived.Test.YtahmkkjcchnonaaGreatDoorTa4
import Derived.Test.YtahmkkjcchnonaaGreatDoorTa5
import Derived.Test.YtahmkkjcchnonaaGreatDoorTa6
set_option maxRecDepth 100000
set_option maxHeartbeats 8000000
set_option linter.unusedSimpArgs false
set_option linter.unusedVariables false
set_option linter.unusedSectionVars false
namespace Go.Proofs.YtahmkkjcchnonaaGreatDoor.Abs
abbrev JJ(n:Nat)(g:FT):Prop:=g.is Tryz.prog n
noncomputable def chk (g:FT) (fn:Func):Bool:= !(fn.name == "runtime.NumGoroutine")&&(match fn.body with|some code=>fitC Tryz.prog (Il g.sl g.tc) code|none=>false)&&decide (fn.ntmps=g.np+g.nt)&&fitRs Tryz.prog (g.res.map (Rw g.sl)) fn.results.toList&&g.ok
theorem hI{g:FT}{n:Nat}{fn:Func}(h:Tryz.prog.funcs[n]?=some fn)(k:chk g fn=true:=by kernel_rfl):JJ n g:=by
 unfold chk at k;simp only[e14,e0r,e0w]at k;obtain⟨⟨⟨⟨k1,k2⟩,k3⟩,k4⟩,k5⟩:=k;cases hb:fn.body with
 |none=>rw[hb]at k2;cases k2
 |some code=>rw[hb]at k2;exact⟨⟨fn,code,h,k1,hb,k3,k2,k4⟩,k5⟩
theorem h3:JJ 3 g3:=hI Tryz.func3
theorem h4:JJ 4 g4:=hI Tryz.func4
theorem h5:JJ 5 g5:=hI Tryz.func5
theorem h6:JJ 6 g6:=hI Tryz.func6
theorem h7:JJ 7 g7:=hI Tryz.func7
theorem h8:JJ 8 g8:=hI Tryz.func8
theorem h9:JJ 9 g9:=hI Tryz.func9
theorem h10:JJ 10 g10:=hI Tryz.func10
theorem h11:JJ 11 g11:=hI Tryz.func11
theorem Pb:JJ 12 Xq:=hI Tryz.func12
theorem h13:JJ 13 g13:=hI Tryz.func13
theorem h14:JJ 14 g14:=hI Tryz.func14
theorem h15:JJ 15 g15:=hI Tryz.func15
theorem h16:JJ 16 g16:=hI Tryz.func16
theorem h17:JJ 17 g17:=hI Tryz.func17
theorem h18:JJ 18 Uy:=hI Tryz.func18
theorem h19:JJ 19 Ga:=hI Tryz.func19
theorem h20:JJ 20 g20:=hI Tryz.func20
theorem h21:JJ 21 g21:=hI Tryz.func21
theorem h22:JJ 22 Ux:=hI Tryz.func22
theorem h23:JJ 23 g23:=hI Tryz.func23
theorem h24:JJ 24 g24:=hI Tryz.func24
theorem h25:JJ 25 g25:=hI Tryz.func25
theorem h26:JJ 26 Xl:=hI Tryz.func26
theorem h27:JJ 27 Qm:=hI Tryz.func27
theorem h28:JJ 28 g28:=hI Tryz.func28
theorem h29:JJ 29 g29:=hI Tryz.func29
theorem Uq:JJ 30 g30:=hI Tryz.func30
theorem h31:JJ 31 Sj:=hI Tryz.func31
theorem Sh:JJ 32 g32:=hI Tryz.func32
theorem h33:JJ 33 g33:=hI Tryz.func33
theorem h34:JJ 34 g34:=hI Tryz.func34
theorem h35:JJ 35 g35:=hI Tryz.func35
theorem h36:JJ 36 g36:=hI Tryz.func36
theorem h37:JJ 37 g37:=hI Tryz.func37
theorem h38:JJ 38 g38:=hI Tryz.func38
theorem h39:JJ 39 g39:=hI Tryz.func39
theorem h40:JJ 40 Uv:=hI Tryz.func40
theorem h41:JJ 41 g41:=hI Tryz.func41
theorem h46:JJ 46 g46:=hI Tryz.func46
theorem h47:JJ 47 g47:=hI Tryz.func47
theorem h48:JJ 48 g48:=hI Tryz.func48
theorem h49:JJ 49 g49:=hI Tryz.func49
theorem h50:JJ 50 g50:=hI Tryz.func50
theorem h51:JJ 51 g51:=hI Tryz.func51
theorem h52:JJ 52 Uu:=hI Tryz.func52
theorem h53:JJ 53 g53:=hI Tryz.func53
theorem h54:JJ 54 Xj:=hI Tryz.func54
theorem h55:JJ 55 Ut:=hI Tryz.func55
theorem h56:JJ 56 g56:=hI Tryz.func56
theorem h57:JJ 57 g57:=hI Tryz.func57
theorem h58:JJ 58 g58:=hI Tryz.func58
theorem h59:JJ 59 g59:=hI Tryz.func59
theorem h60:JJ 60 g60:=hI Tryz.func60
theorem h61:JJ 61 g61:=hI Tryz.func61
theorem h62:JJ 62 g62:=hI Tryz.func62
theorem h63:JJ 63 g63:=hI Tryz.func63
theorem h64:JJ 64 g64:=hI Tryz.func64
theorem h65:JJ 65 Si:=hI Tryz.func65
theorem h66:JJ 66 g66:=hI Tryz.func66
theorem h67:JJ 67 Xi:=hI Tryz.func67
theorem h68:JJ 68 L4:=hI Tryz.func68
theorem h69:JJ 69 Us:=hI Tryz.func69
theorem h70:JJ 70 Xh:=hI Tryz.func70
theorem h71:JJ 71 g71:=hI Tryz.func71
theorem h72:JJ 72 g72:=hI Tryz.func72
theorem h73:JJ 73 g73:=hI Tryz.func73
theorem h74:JJ 74 g74:=hI Tryz.func74
theorem h75:JJ 75 g75:=hI Tryz.func75
theorem h76:JJ 76 g76:=hI Tryz.func76
theorem h77:JJ 77 g77:=hI Tryz.func77
theorem h78:JJ 78 g78:=hI Tryz.func78
theorem h79:JJ 79 g79:=hI Tryz.func79
theorem h96:JJ 96 g96:=hI Tryz.func96
theorem h97:JJ 97 Xg:=hI Tryz.func97
theorem h98:JJ 98 g98:=hI Tryz.func98
theorem h99:JJ 99 g99:=hI Tryz.func99
theorem d56:JJ 100 Qp:=hI Tryz.func100
theorem d55:JJ 101 Xt:=hI Tryz.func101
theorem d54:JJ 102 af5:=hI Tryz.func102
theorem d53:JJ 103 af4:=hI Tryz.func103
theorem d52:JJ 104 af3:=hI Tryz.func104
theorem d51:JJ 105 Pf:=hI Tryz.func105
theorem d50:JJ 106 Xs:=hI Tryz.func106
theorem d4z:JJ 107 af2:=hI Tryz.func107
theorem d4y:JJ 108 Xr:=hI Tryz.func108
theorem d4x:JJ 109 a2r:=hI Tryz.func109
theorem d4v:JJ 110 K9:=hI Tryz.func110
theorem d4u:JJ 111 af1:=hI Tryz.func111
theorem d4t:JJ 112 af0:=hI Tryz.func112
theorem d4s:JJ 113 a2p:=hI Tryz.func113
theorem d4r:JJ 114 ae9:=hI Tryz.func114
theorem d4q:JJ 116 V1:=hI Tryz.func116
theorem d4p:JJ 117 V0:=hI Tryz.func117
theorem d4o:JJ 118 ae8:=hI Tryz.func118
theorem d4n:JJ 119 ae7:=hI Tryz.func119
theorem d4m:JJ 120 ae6:=hI Tryz.func120
theorem d4l:JJ 121 Uz:=hI Tryz.func121
theorem d4k:JJ 122 ae5:=hI Tryz.func122
theorem d4j:JJ 123 ae4:=hI Tryz.func123
theorem d4i:JJ 124 ae3:=hI Tryz.func124
theorem d4h:JJ 125 ae2:=hI Tryz.func125
theorem d4g:JJ 126 a2o:=hI Tryz.func126
theorem d4f:JJ 127 ae1:=hI Tryz.func127
theorem Ur:JJ 128 Sk:=hI Tryz.func128
theorem d4c:JJ 154 ad7:=hI Tryz.func154
theorem d4b:JJ 155 ad6:=hI Tryz.func155
theorem d4a:JJ 156 Xp:=hI Tryz.func156
theorem d49:JJ 157 ad5:=hI Tryz.func157
theorem d48:JJ 158 ad4:=hI Tryz.func158
theorem d47:JJ 159 ad3:=hI Tryz.func159
theorem d46:JJ 160 ad0:=hI Tryz.func160
theorem d45:JJ 161 ac9:=hI Tryz.func161
theorem d44:JJ 162 ac8:=hI Tryz.func162
theorem d43:JJ 163 ac7:=hI Tryz.func163
theorem d42:JJ 164 ac6:=hI Tryz.func164
theorem d41:JJ 165 ac5:=hI Tryz.func165
theorem d40:JJ 166 ac4:=hI Tryz.func166
theorem d3z:JJ 167 ac3:=hI Tryz.func167
theorem d3y:JJ 168 Qo:=hI Tryz.func168
theorem d3x:JJ 169 ac2:=hI Tryz.func169
theorem d3v:JJ 170 ac1:=hI Tryz.func170
theorem d3u:JJ 171 ac0:=hI Tryz.func171
theorem d3t:JJ 172 ab9:=hI Tryz.func172
theorem d3s:JJ 173 ab8:=hI Tryz.func173
theorem d3r:JJ 174 Xo:=hI Tryz.func174
theorem d3q:JJ 175 ab7:=hI Tryz.func175
theorem d3p:JJ 178 ab6:=hI Tryz.func178
theorem d3o:JJ 179 a2m:=hI Tryz.func179
theorem d3m:JJ 180 ab5:=hI Tryz.func180
theorem d3l:JJ 181 a2l:=hI Tryz.func181
theorem d3k:JJ 182 ab4:=hI Tryz.func182
theorem d3j:JJ 183 ab3:=hI Tryz.func183
theorem d3i:JJ 184 ab2:=hI Tryz.func184
theorem d3h:JJ 185 ab1:=hI Tryz.func185
theorem d3g:JJ 186 Xn:=hI Tryz.func186
theorem d3f:JJ 187 ab0:=hI Tryz.func187
theorem d3e:JJ 189 aa9:=hI Tryz.func189
theorem d3c:JJ 190 aa8:=hI Tryz.func190
theorem d3b:JJ 191 a2k:=hI Tryz.func191
theorem d3a:JJ 192 aa7:=hI Tryz.func192
theorem d39:JJ 193 aa6:=hI Tryz.func193
theorem d38:JJ 194 a2j:=hI Tryz.func194
theorem d37:JJ 203 aa4:=hI Tryz.func203
theorem d35:JJ 228 Xm:=hI Tryz.func228
theorem d34:JJ 229 aa2:=hI Tryz.func229
theorem d32:JJ 230 N5:=hI Tryz.func230
theorem d31:JJ 231 aa0:=hI Tryz.func231
theorem d30:JJ 232 a9z:=hI Tryz.func232
theorem d2z:JJ 233 a2i:=hI Tryz.func233
theorem d2x:JJ 235 a9y:=hI Tryz.func235
theorem d2w:JJ 236 Qn:=hI Tryz.func236
theorem d2v:JJ 237 a9x:=hI Tryz.func237
theorem d2u:JJ 238 a9w:=hI Tryz.func238
theorem d2t:JJ 239 a9v:=hI Tryz.func239
theorem d2r:JJ 240 a9u:=hI Tryz.func240
theorem d2q:JJ 243 a9t:=hI Tryz.func243
theorem d2p:JJ 244 a9s:=hI Tryz.func244
theorem d2o:JJ 245 a9r:=hI Tryz.func245
theorem d2n:JJ 246 a9q:=hI Tryz.func246
theorem d2m:JJ 247 a9p:=hI Tryz.func247
theorem d2l:JJ 248 a9o:=hI Tryz.func248
theorem bb8:JJ 249 a9n:=hI Tryz.func249
theorem d2j:JJ 250 a9l:=hI Tryz.func250
theorem d2i:JJ 251 a9k:=hI Tryz.func251
theorem d2h:JJ 252 a9j:=hI Tryz.func252
theorem d2g:JJ 253 a2f:=hI Tryz.func253
theorem d2d:JJ 273 a2e:=hI Tryz.func273
theorem d2c:JJ 275 a9i:=hI Tryz.func275
theorem d2b:JJ 276 a9h:=hI Tryz.func276
theorem d2a:JJ 278 Xk:=hI Tryz.func278
theorem d28:JJ 286 a9f:=hI Tryz.func286
theorem d27:JJ 287 a9e:=hI Tryz.func287
theorem d26:JJ 288 a9d:=hI Tryz.func288
theorem d25:JJ 289 a9c:=hI Tryz.func289
theorem d23:JJ 293 Uw:=hI Tryz.func293
theorem d22:JJ 295 a9a:=hI Tryz.func295
theorem all_cons{P:Program}{n:Nat}{d:FT}{l:List (Nat×FT)}(h:d.is P n)(hl:∀ p∈l,p.2.is P p.1):∀ p∈(n,d)::l,p.2.is P p.1:=by
 intro p hp;rcases e2g.1 hp with rfl|hp
 ·exact h
 ·exact hl p hp
theorem all_nil{P:Program}:∀ p∈([]:List (Nat×FT)),p.2.is P p.1:=λ_ h=>by cases h
theorem c12:∀ p∈tab,p.2.is Tryz.prog p.1:=
 all_cons h3<|all_cons h4<|all_cons h5<|all_cons h6<|all_cons h7<|all_cons h8<|all_cons h9<|all_cons h10<|all_cons h11<|all_cons Pb<|all_cons h13<|all_cons h14<|all_cons h15<|all_cons h16<|all_cons h17<|all_cons h18<|all_cons h19<|all_cons h20<|all_cons h21<|all_cons h22<|all_cons h23<|all_cons h24<|all_cons h25<|all_cons h26<|all_cons h27<|all_cons h28<|all_cons h29<|all_cons Uq<|all_cons h31<|all_cons Sh<|all_cons h33<|all_cons h34<|all_cons h35<|all_cons h36<|all_cons h37<|all_cons h38<|all_cons h39<|all_cons h40<|all_cons h41<|all_cons h46<|all_cons h47<|all_cons h48<|all_cons h49<|all_cons h50<|all_cons h51<|all_cons h52<|all_cons h53<|all_cons h54<|all_cons h55<|all_cons h56<|all_cons h57<|all_cons h58<|all_cons h59<|all_cons h60<|all_cons h61<|all_cons h62<|all_cons h63<|all_cons h64<|all_cons h65<|all_cons h66<|all_cons h67<|all_cons h68<|all_cons h69<|all_cons h70<|all_cons h71<|all_cons h72<|all_cons h73<|all_cons h74<|all_cons h75<|all_cons h76<|all_cons h77<|all_cons h78<|all_cons h79<|all_cons h96<|all_cons h97<|all_cons h98<|all_cons h99<|all_cons d56<|all_cons d55<|all_cons d54<|all_cons d53<|all_cons d52<|all_cons d51<|all_cons d50<|all_cons d4z<|all_cons d4y<|all_cons d4x<|all_cons d4v<|all_cons d4u<|all_cons d4t<|all_cons d4s<|all_cons d4r<|all_cons d4q<|all_cons d4p<|all_cons d4o<|all_cons d4n<|all_cons d4m<|all_cons d4l<|all_cons d4k<|all_cons d4j<|all_cons d4i<|all_cons d4h<|all_cons d4g<|all_cons d4f<|all_cons Ur<|all_cons d4c<|all_cons d4b<|all_cons d4a<|all_cons d49<|all_cons d48<|all_cons d47<|all_cons d46<|all_cons d45<|all_cons d44<|all_cons d43<|all_cons d42<|all_cons d41<|all_cons d40<|all_cons d3z<|all_cons d3y<|all_cons d3x<|all_cons d3v<|all_cons d3u<|all_cons d3t<|all_cons d3s<|all_cons d3r<|all_cons d3q<|all_cons d3p<|all_cons d3o<|all_cons d3m<|all_cons d3l<|all_cons d3k<|all_cons d3j<|all_cons d3i<|all_cons d3h<|all_cons d3g<|all_cons d3f<|all_cons d3e<|all_cons d3c<|all_cons d3b<|all_cons d3a<|all_cons d39<|all_cons d38<|all_cons d37<|all_cons d35<|all_cons d34<|all_cons d32<|all_cons d31<|all_cons d30<|all_cons d2z<|all_cons d2x<|all_cons d2w<|all_cons d2v<|all_cons d2u<|all_cons d2t<|all_cons d2r<|all_cons d2q<|all_cons d2p<|all_cons d2o<|all_cons d2n<|all_cons d2m<|all_cons d2l<|all_cons bb8<|all_cons d2j<|all_cons d2i<|all_cons d2h<|all_cons d2g<|all_cons d2d<|all_cons d2c<|all_cons d2b<|all_cons d2a<|all_cons d28<|all_cons d27<|all_cons d26<|all_cons d25<|all_cons d23<|all_cons d22<|all_nil
end Go.Proofs.YtahmkkjcchnonaaGreatDoor.Abs
section
namespace Go.Proofs
open Go.RowKit Go.Shelf
attribute [local go_sem] Oper.semAt_some
def Tryz.down{α:Type}(f:Nat->α)(len k:Nat):List α:=(List.range k).map λj=>f (len-1-j)
theorem Tryz.down_succ{α:Type}(f:Nat->α)(len k:Nat):Tryz.down f len (k+1)=Tryz.down f len k++[f (len-1-k)]:=by simp[Tryz.down,List.range_succ]
theorem Tryz.down_length{α:Type}(f:Nat->α)(len k:Nat):(Tryz.down f len k).length=k:=by simp[Tryz.down]
abbrev Tryz.PutV:=Int×ByteArray
def Tryz.encPut(x:Nat×Tryz.PutV):Array Value:= #[.int .i64 (x.1:Int),.agg #[.int .i64 x.2.1,.string x.2.2]]
theorem Tryz.back1_in(F:Fence)(n:Nat)(h8:F.fn 241)(hro:F.round=none)(hn:1<=n)(l Bs n₀ b off len cap:Nat)(zs:List Tryz.PutV)(hreach:len*24<=140737488351232)(hb:b<n₀)(J Jx:List (Nat×Tryz.PutV)->World->Prop)
 (hY:∀ pre x W,J pre W->pre.length<len->YieldAt F (n-1) Tryz.prog l (Tryz.encPut x) W λe W' => (e=.returned (.bool true)/\J (pre++[x]) W'/\Below n₀ W W')\/(e=.returned (.bool false)/\Jx (pre++[x]) W'))
 (W:World) (hBs:W.cell? ⟨Bs,0,none⟩=some (.slice (some ⟨b,off,none⟩) len cap)) (hBn:Bs<n₀)
 (hc:∀ j,j<len->W.cell? ⟨b,off+j*2,none⟩=some (.int .i64 (zs[j]?.getD default).1)/\W.cell? ⟨b,off+j*2+1,none⟩=some (.string (zs[j]?.getD default).2)) (h0:J [] W) :
 CallsIn F n Tryz.prog 241 #[.func (.yield l) #[] #[],.pointer (some ⟨Bs,0,none⟩)] W λe W'=>(∃ v,e=.returned v)/\
  ((∃ ys,ys=Tryz.down (λj=>(j,zs[j]?.getD default)) len len/\J ys W')\/(∃ pre,(∃ k,k<=len/\pre=Tryz.down (λj=>(j,zs[j]?.getD default)) len k)/\Jx pre W')):=by
 refine callsIn_of_wp Tryz.func241 rfl h8 ?_ hro;simp only[Tryz.f241,List.size_toArray,List.length_cons,List.length_nil,Nat.reduceAdd,Nat.reduceSub,Array.replicate_succ,Array.replicate_zero,List.push_toArray,List.append_toArray,List.nil_append,List.cons_append]
 gi_wp2
 gi_loopw [3] (λi wr=>∃ k:Nat,k<=len/\i=.int .i64 ((len:Int)-1-k)/\J (Tryz.down (λj=>(j,zs[j]?.getD default)) len k) wr/\Below n₀ W wr)
  (λi _=>(intOf i+1).toNat)
 case atStart=>exact⟨0,Nat.zero_le _,by simp,h0,Below.refl _ _⟩
 case round=>
  obtain⟨k,hk,rfl,hJs,hnx⟩:=hrel;have hBx:wr.cell? ⟨Bs,0,none⟩=some (.slice (some ⟨b,off,none⟩) len cap):=(hnx.cell (p:=⟨Bs,0,none⟩) hBn).trans hBs;by_cases hlt:k<len
  ·obtain⟨m,rfl⟩:∃ m,len=m+k+1:=⟨len-k-1,by omega⟩;have hm:((m+k+1:Nat):Int)-1-k=(m:Int):=(by omega);rw[hm]at *;have hc1:=(hnx.cell (p:=⟨b,off+m*2,none⟩) hb).trans (hc m (by omega)).1;have hc2:=(hnx.cell (p:=⟨b,off+m*2+1,none⟩) hb).trans (hc m (by omega)).2;obtain⟨fn,tmps,assign,body,hy,hR⟩:=hY _ (m,zs[m]?.getD default) wr hJs (by rw[Tryz.down_length];omega);dsimp only[Tryz.encPut]at hy
   gi_wp2
   have hdn:Tryz.down (λj=>(j,zs[j]?.getD default)) (m+k+1) (k+1)=Tryz.down (λj=>(j,zs[j]?.getD default)) (m+k+1) k++[(m,zs[m]?.getD default)]:=by
    rw[Tryz.down_succ,show m+k+1-1-k=m by omega]
   refine hR.mono ?_;rintro e W3 (⟨rfl,hJ3,hk3⟩|⟨rfl,hJx3⟩)
   ·gi_wp2
    go_roundw
    case rel=>exact⟨.int .i64 ((m:Int)-1),_,_,_,_,_,_,_,_,_,_,_,_,⟨k+1,by omega,congrArg (Value.int .i64) (by omega),by rw[hdn];exact hJ3,hnx.trans hk3⟩,by rw[show((m+k+1:Nat):Int)-1=(m:Int)+k by omega];rfl⟩
    case measure=>first|(simp[intOf];done)|(simp[intOf];omega)
   ·gi_wp2
    refine bodyPost_ret (results_none rfl _ _ _) rfl ?_;exact⟨⟨_,rfl⟩,.inr ⟨_,⟨k+1,by omega,hdn.symm⟩,hJx3⟩⟩
  ·obtain rfl:k=len:=by omega
   gi_wp2
   go_end0
   exact⟨⟨_,rfl⟩,.inl ⟨_,rfl,hJs⟩⟩
end Go.Proofs
end
section
namespace Go.Proofs
open Go.RowKit Go.Shelf
attribute [local go_sem] Oper.semAt_some
theorem Tryz.back0_in(F:Fence)(n:Nat)(h8:F.fn 241)(hro:F.round=none)(l Bs cap:Nat)(a:Option Addr)(J:List (Nat×Tryz.PutV)->World->Prop)
 (W:World) (hBs:W.cell? ⟨Bs,0,none⟩=some (.slice a 0 cap)) (h0:J [] W) :
 CallsIn F n Tryz.prog 241 #[.func (.yield l) #[] #[],.pointer (some ⟨Bs,0,none⟩)] W λe W'=>(∃ v,e=.returned v)/\J [] W':=by
 refine callsIn_of_wp Tryz.func241 rfl h8 ?_ hro;simp only[Tryz.f241,List.size_toArray,List.length_cons,List.length_nil,Nat.reduceAdd,Nat.reduceSub,Array.replicate_succ,Array.replicate_zero,List.push_toArray,List.append_toArray,List.nil_append,List.cons_append]
 gi_wp2
 gi_loopw [3] (λi wr=>i=.int .i64 (-1)/\J [] wr) (λ_ _=>0)
 case atStart=>exact⟨rfl,h0⟩
 case round=>
  obtain⟨rfl,hJs⟩:=hrel
  gi_wp2
  go_end0
  exact⟨⟨_,rfl⟩,hJs⟩
def Tryz.Puts(n₀:Nat)(W:World)(sv:Value)(zs:List Tryz.PutV):Prop:=
 (∃ a cap,sv=.slice a 0 cap/\zs=[])\/∃ b off cap,sv=.slice (some ⟨b,off,none⟩) zs.length cap/\b<n₀/\∀ j,j<zs.length->W.cell? ⟨b,off+j*2,none⟩=some (.int .i64 (zs[j]?.getD default).1)/\W.cell? ⟨b,off+j*2+1,none⟩=some (.string (zs[j]?.getD default).2)
theorem Tryz.Puts.below{n₀:Nat}{A B:World}(h:Below n₀ A B){sv:Value}{zs:List Tryz.PutV}:Tryz.Puts n₀ A sv zs->Tryz.Puts n₀ B sv zs
 |.inl e=>.inl e
 |.inr ⟨b,off,cap,e,hb,hc⟩=>.inr ⟨b,off,cap,e,hb,λj hj=>⟨(h.cell (p:=⟨b,off+j*2,none⟩) hb).trans (hc j hj).1,(h.cell (p:=⟨b,off+j*2+1,none⟩) hb).trans (hc j hj).2⟩⟩
theorem Tryz.back_stops(F:Fence)(n:Nat)(h8:F.fn 241)(hro:F.round=none)(hn:1<=n)(Bs n₀:Nat)(sv:Value)(zs:List Tryz.PutV)(hreach:zs.length*24<=140737488351232)(w:World)(hBs:Bs<n₀)(hn₀:n₀<=w.heap.size)
 (hc:w.cell? ⟨Bs,0,none⟩=some sv) (hI:Tryz.Puts n₀ w sv zs) :
 SeqStopsK F n Tryz.prog 241 #[.pointer (some ⟨Bs,0,none⟩)] Tryz.encPut (Below n₀) (λys=>ys=Tryz.down (λj=>(j,zs[j]?.getD default)) zs.length zs.length)
  (λpre=>∃ k,k<=zs.length/\pre=Tryz.down (λj=>(j,zs[j]?.getD default)) zs.length k) zs.length w:=λl J Jx W hW _ _ hY h0=>by
 have hc':=(hW.cell (p:=⟨Bs,0,none⟩) (Nat.lt_of_lt_of_le hBs hn₀)).trans hc;rcases hI.below (hW.mono hn₀)with ⟨a,cap,rfl,rfl⟩|⟨b,off,cap,rfl,hb,hcs⟩
 ·exact(Tryz.back0_in F n h8 hro l Bs cap a J W hc' h0).mono λe W' ⟨he,hj⟩=>⟨he,.inl ⟨_,rfl,hj⟩⟩
 ·exact Tryz.back1_in F n h8 hro hn l Bs n₀ b off zs.length cap zs hreach hb J Jx hY W hc' hBs hcs h0
theorem Tryz.back_in(F:Fence)(n:Nat)(h6:F.fn 177)(hro:F.round=none)(a:Option Addr)(len cap:Nat)(w:World) :
 CallsIn F n Tryz.prog 177 #[.slice a len cap] w λe w'=>e=.returned (.func (.func 241) #[] #[.pointer (some ⟨w.heap.size,0,none⟩)])/\w'=w.alloc (.cells #[.slice a len cap] 25):=by
 refine callsIn_of_wp Tryz.func177 rfl h6 ?_ hro;simp only[Tryz.f177,List.size_toArray,List.length_cons,List.length_nil,Nat.reduceAdd,Nat.reduceSub,Array.replicate_succ,Array.replicate_zero,List.push_toArray,List.append_toArray,List.nil_append,List.cons_append]
 gi_wp2
 go_ret
 exact⟨rfl,rfl⟩
end Go.Proofs
end
section
namespace Go.Proofs
open Go.RowKit Go.Shelf
attribute [local go_sem] Oper.semAt_some
theorem Tryz.has_in(F:Fence)(n:Nat)(h6:F.fn 176)(hro:F.round=none)(a wl:Option Addr)(len cap wn wc:Nat)(lies arm i:Int)(down:Bool)(w:World) :
 CallsIn F n Tryz.prog 176 #[.agg #[.slice a len cap,.slice wl wn wc,.int .i64 lies,.int .i64 arm,.bool down],.int .i64 i] w λe w'=>e=.returned (.bool (decide (0<=i)&&decide (i<len)))/\w'=w.alloc (.cells #[.slice a len cap,.slice wl wn wc,.int .i64 lies,.int .i64 arm,.bool down] 27):=by
 refine callsIn_of_wp Tryz.func176 rfl h6 ?_ hro;simp only[Tryz.f176,List.size_toArray,List.length_cons,List.length_nil,Nat.reduceAdd,Nat.reduceSub,Array.replicate_succ,Array.replicate_zero,List.push_toArray,List.append_toArray,List.nil_append,List.cons_append]
 gi_wp2
 all_goals
  go_ret
  refine⟨?_,rfl⟩
  first
  |(have h1:i<0:=by assumption
    rw[decide_eq_false (by omega)];rfl)
  |(have h1:0<=i:=by assumption
    rw[decide_eq_true h1];rfl)
theorem Tryz.read_in(F:Fence)(n:Nat)(hr:F.fn 115)(hh:F.fn 176)(hb:F.fn 177)(hb1:F.fn 241)(hro:F.round=none)(hn:3<=n)(a wl:Option Addr)(len cap wn wc:Nat)(lies arm i:Int)(zs:List Tryz.PutV)(hreach:zs.length*24<=140737488351232)(w:World)(hI:Tryz.Puts w.heap.size w (.slice wl wn wc) zs)
 (s:ByteArray) (hs:0<=i->i<len->∃ b o,a=some ⟨b,o,none⟩/\b<w.heap.size/\w.cell? ⟨b,o+i.toNat,none⟩=some (.string s)) :
 CallsIn F n Tryz.prog 115 #[.agg #[.slice a len cap,.slice wl wn wc,.int .i64 lies,.int .i64 arm,.bool false],.int .i64 i] w λe w'=>(∃ t ok,e=.returned (.tuple #[.string t,.bool ok])/\((¬ (0<=i/\i<len)/\t=⟨#[]⟩/\ok=false)\/((0<=i/\i<len)/\ok=true/\(((∀ j,j<zs.length->(zs[j]?.getD default).1≠i)/\t=s)\/∃ k,k<zs.length/\(zs[zs.length-1-k]?.getD default).1=i/\t=(zs[zs.length-1-k]?.getD default).2/\∀ j,j<k->(zs[zs.length-1-j]?.getD default).1≠i))))/\Below w.heap.size w w':=by
 have h1:1<=n:=by omega
 refine callsIn_of_wp_marks Tryz.func115 rfl hr ?_ hro;simp only[Tryz.f115,List.size_toArray,List.length_cons,List.length_nil,Nat.reduceAdd,Nat.reduceSub,Array.replicate_succ,Array.replicate_zero,List.push_toArray,List.append_toArray,List.nil_append,List.cons_append]
 gi_wp2_with (first|(gi_at_call 176;refine(Tryz.has_in F (n-1) hh hro _ _ _ _ _ _ _ _ _ _ _).mono ?_;rintro e w' ⟨rfl,rfl⟩)|(gi_at_call 177;refine(Tryz.back_in F (n-1) hb hro _ _ _ _).mono ?_;rintro e w' ⟨rfl,rfl⟩))
 ·have hno:¬ (0<=i/\i<(len:Int)):=by
   have h:(!decide (0<=i))=true\/(!decide (i<(len:Int)))=true:=(by assumption);intro hc;rcases h with h|h
   ·simp at h;omega
   ·simp at h;omega
  have bS:=((Boxed.new ((w.alloc (.cells #[.slice a len cap,.slice wl wn wc,.int .i64 lies,.int .i64 arm,.bool false] 27)).alloc (.cells #[.int .i64 i] 3)) 9 (.string ⟨#[]⟩)).alloc (.cells #[.bool false] 4)).alloc (.cells #[.slice a len cap,.slice wl wn wc,.int .i64 lies,.int .i64 arm,.bool false] 27);have bB:=(Boxed.new (((w.alloc (.cells #[.slice a len cap,.slice wl wn wc,.int .i64 lies,.int .i64 arm,.bool false] 27)).alloc (.cells #[.int .i64 i] 3)).alloc (.cells #[.string ⟨#[]⟩] 9)) 4 (.bool false)).alloc (.cells #[.slice a len cap,.slice wl wn wc,.int .i64 lies,.int .i64 arm,.bool false] 27);simp only[World.size_alloc]at bS bB;have c4:=bS.cell;have c5:=bB.cell;refine⟨.tuple #[.string ⟨#[]⟩,.bool false],?_,⟨_,_,rfl,.inl ⟨hno,rfl,rfl⟩⟩,(((((Below.refl _ w).alloc (Nat.le_refl _) _).alloc (by simp) _).alloc (by simp;omega) _).alloc (by simp;omega) _).alloc (by simp;omega) _⟩;simp[results,Tryz.f115,go_sem,c4,c5]
 ·have hsz:((((((w.alloc (.cells #[.slice a len cap,.slice wl wn wc,.int .i64 lies,.int .i64 arm,.bool false] 27)).alloc (.cells #[.int .i64 i] 3)).alloc (.cells #[.string ⟨#[]⟩] 9)).alloc (.cells #[.bool false] 4)).alloc (.cells #[.slice a len cap,.slice wl wn wc,.int .i64 lies,.int .i64 arm,.bool false] 27)).alloc (.cells #[.slice wl wn wc] 25)).heap.size=w.heap.size+6:=by simp
  have hB0:Below w.heap.size w ((((((w.alloc (.cells #[.slice a len cap,.slice wl wn wc,.int .i64 lies,.int .i64 arm,.bool false] 27)).alloc (.cells #[.int .i64 i] 3)).alloc (.cells #[.string ⟨#[]⟩] 9)).alloc (.cells #[.bool false] 4)).alloc (.cells #[.slice a len cap,.slice wl wn wc,.int .i64 lies,.int .i64 arm,.bool false] 27)).alloc (.cells #[.slice wl wn wc] 25)):=((((((Below.refl _ w).alloc (Nat.le_refl _) _).alloc (by simp) _).alloc (by simp;omega) _).alloc (by simp;omega) _).alloc (by simp;omega) _).alloc (by simp;omega) _;have bD:=World.alloc_heap_new w (.cells #[.slice a len cap,.slice wl wn wc,.int .i64 lies,.int .i64 arm,.bool false] 27);have bN:=Boxed.new (((((w.alloc (.cells #[.slice a len cap,.slice wl wn wc,.int .i64 lies,.int .i64 arm,.bool false] 27)).alloc (.cells #[.int .i64 i] 3)).alloc (.cells #[.string ⟨#[]⟩] 9)).alloc (.cells #[.bool false] 4)).alloc (.cells #[.slice a len cap,.slice wl wn wc,.int .i64 lies,.int .i64 arm,.bool false] 27)) 25 (.slice wl wn wc);have bI:=((((Boxed.new (w.alloc (.cells #[.slice a len cap,.slice wl wn wc,.int .i64 lies,.int .i64 arm,.bool false] 27)) 3 (.int .i64 i)).alloc (.cells #[.string ⟨#[]⟩] 9)).alloc (.cells #[.bool false] 4)).alloc (.cells #[.slice a len cap,.slice wl wn wc,.int .i64 lies,.int .i64 arm,.bool false] 27)).alloc (.cells #[.slice wl wn wc] 25);have bS:=(((Boxed.new ((w.alloc (.cells #[.slice a len cap,.slice wl wn wc,.int .i64 lies,.int .i64 arm,.bool false] 27)).alloc (.cells #[.int .i64 i] 3)) 9 (.string ⟨#[]⟩)).alloc (.cells #[.bool false] 4)).alloc (.cells #[.slice a len cap,.slice wl wn wc,.int .i64 lies,.int .i64 arm,.bool false] 27)).alloc (.cells #[.slice wl wn wc] 25);have bB:=((Boxed.new (((w.alloc (.cells #[.slice a len cap,.slice wl wn wc,.int .i64 lies,.int .i64 arm,.bool false] 27)).alloc (.cells #[.int .i64 i] 3)).alloc (.cells #[.string ⟨#[]⟩] 9)) 4 (.bool false)).alloc (.cells #[.slice a len cap,.slice wl wn wc,.int .i64 lies,.int .i64 arm,.bool false] 27)).alloc (.cells #[.slice wl wn wc] 25);simp only[World.size_alloc]at bN bI bS bB;obtain⟨W0,hW0⟩:∃ W0,((((((w.alloc (.cells #[.slice a len cap,.slice wl wn wc,.int .i64 lies,.int .i64 arm,.bool false] 27)).alloc (.cells #[.int .i64 i] 3)).alloc (.cells #[.string ⟨#[]⟩] 9)).alloc (.cells #[.bool false] 4)).alloc (.cells #[.slice a len cap,.slice wl wn wc,.int .i64 lies,.int .i64 arm,.bool false] 27)).alloc (.cells #[.slice wl wn wc] 25))=W0:=⟨_,rfl⟩;rw[hW0]at hsz hB0 bN bI bS bB ⊢;have bD1:W0.heap[w.heap.size]?=some (.cells #[.slice a len cap,.slice wl wn wc,.int .i64 lies,.int .i64 arm,.bool false] 27 (0,0)):=by
   rw[<-hW0]
   exact((((((Below.refl (w.heap.size+1) (w.alloc (.cells #[.slice a len cap,.slice wl wn wc,.int .i64 lies,.int .i64 arm,.bool false] 27))).alloc (by simp) _).alloc (by simp) _).alloc (by simp) _).alloc (by simp) _).alloc (by simp) _).block w.heap.size (by omega) |>.trans (World.alloc_heap_new w _)
  clear hW0;have hI0:Tryz.Puts W0.heap.size W0 (.slice wl wn wc) zs:=by
   rcases hI.below hB0 with h|⟨b,off,cap,e,hb,hc⟩
   ·exact .inl h
   ·exact .inr ⟨b,off,cap,e,by omega,hc⟩
  refine wpIn_rangeFunc_ownH hro h1 (gf:=241) (lb:= #[.pointer (some ⟨w.heap.size+1+1+1+1+1,0,none⟩)]) rfl hb1 (enters_of Tryz.func241 (by kernel_rfl) rfl)
   (Tryz.back_stops F (n-1) hb1 hro (by omega) (w.heap.size+1+1+1+1+1) W0.heap.size (.slice wl wn wc) zs hreach W0 (by omega) (Nat.le_refl _) bN.cell hI0) belowK_t (belowK_b (Nat.le_refl _)) (Below.refl _ _) (λ_=>rfl)
   (λpre W=>(∀ p∈pre,p.2.1≠i)/\Below W0.heap.size W0 W)
   (λc pre W=>(c=.ret/\∃ ini last,pre=ini++[last]/\(∀ p∈ini,p.2.1≠i)/\last.2.1=i/\Boxed W (w.heap.size+1+1) 9 (.string last.2.2)/\Boxed W (w.heap.size+1+1+1) 4 (.bool true))/\Below w.heap.size w W)
   (OwnFrom.and (Own.from (λs A B row hs hg hr=>hs) _) (ownFrom_below (Nat.le_refl _) (Nat.le_refl _)))
   (λc=>OwnFrom.and (Own.from (λs A B row hs hg hr=>by obtain⟨hc,ini,last,e1,e2,e3,e4,e5⟩:=hs;exact⟨hc,ini,last,e1,e2,e3,boxed_own _ 9 (λ(_:Unit)=>Value.string last.2.2) () A B row e4 hg hr,boxed_own _ 4 (λ(_:Unit)=>Value.bool true) () A B row e5 hg hr⟩) _) (ownFrom_below (by omega) (by omega)))
   ⟨by simp,Below.refl _ _⟩
   (λx a' W=>∃ Bx,W.heap[Bx]?=some (.cells #[.int .i64 x.2.1,.string x.2.2] 70 (0,0))/\a'={ tmps:= #[.agg #[.slice a len cap,.slice wl wn wc,.int .i64 lies,.int .i64 arm,.bool false],.int .i64 i,.pointer (some ⟨w.heap.size,0,none⟩),.pointer (some ⟨w.heap.size+1,0,none⟩),.pointer (some ⟨w.heap.size+1+1,0,none⟩),.pointer (some ⟨w.heap.size+1+1+1,0,none⟩),undef,.pointer (some ⟨Bx,0,none⟩),.pointer (some ⟨w.heap.size,4,none⟩),.bool false,.bool false,.agg #[.slice a len cap,.slice wl wn wc,.int .i64 lies,.int .i64 arm,.bool false],.int .i64 i,.bool (decide (0<=i)&&decide (i<len)),.bool false,.bool false,.pointer (some ⟨w.heap.size,1,none⟩),.slice wl wn wc,.func (.func 241) #[] #[.pointer (some ⟨w.heap.size+1+1+1+1+1,0,none⟩)],.int .i64 (x.1:Int),.agg #[.int .i64 x.2.1,.string x.2.2],undef,undef,undef,undef,undef,undef,undef,undef,undef,undef,undef],defers:=[] })
   ?hax ?assign ?body ?done ?stop
  case hax=>
   intro x a' s' X Y row hs' hg hr';obtain⟨Bx,e1,e2⟩:=hs';refine⟨Bx,(hg.block Bx (Array.getElem?_eq_some_iff.1 e1).1 (λe=>?_)).trans e1,e2⟩;obtain⟨_,o,ho,hc⟩:=hr' Bx e.symm;rw[e1]at ho;cases ho;cases hc
  case assign=>
   rintro l pre x W K ⟨hp,hB⟩ hK;dsimp only[Tryz.encPut]
   gi_wp2
   exact hK _ _ ((KeepsOthers.alloc _ _).from _) ((Below.refl _ W).alloc hB.size _) ⟨hp,hB.alloc hB.size _⟩ ⟨W.heap.size,World.alloc_heap_new _ _,rfl⟩
  case body=>
   rintro l pre x a' W hl ⟨r,hr'⟩ ⟨hp,hB⟩ ⟨Bx,hx,rfl⟩ hlt;have bI':Boxed W (w.heap.size+1) 3 (.int .i64 i):=(hB.block _ (by omega)).trans bI;have bS':Boxed W (w.heap.size+1+1) 9 (.string ⟨#[]⟩):=(hB.block _ (by omega)).trans bS;have bB':Boxed W (w.heap.size+1+1+1) 4 (.bool false):=(hB.block _ (by omega)).trans bB;have cI:=bI'.cell;have cS:=bS'.cell;have cB:=bB'.cell;have fS:=bS'.frozen;have fB:=bB'.frozen;have c1:W.cell? ⟨Bx,0,none⟩=some (.int .i64 x.2.1):=(by simp only[World.cell?,hx];rfl);have c2:W.cell? ⟨Bx,1,none⟩=some (.string x.2.2):=(by simp only[World.cell?,hx];rfl);have hBw:Below w.heap.size w W:=hB0.trans (hB.mono (by omega))
   gi_wp2
   ·have hxi:x.2.1=i:=by
     have h:(x.2.1==i)=true:=(by assumption);simpa using h
    exact⟨((KeepsOthers.setCell _ _ _).trans (KeepsOthers.setCell _ _ _)).from _,⟨rfl,pre,x,rfl,hp,hxi,(bS'.set _).other (by omega) _,(bB'.other (by omega) _).set _⟩,(hBw.setCell (p:=⟨w.heap.size+1+1,0,none⟩) (by show w.heap.size<=w.heap.size+1+1;omega) _).setCell (p:=⟨w.heap.size+1+1+1,0,none⟩) (by show w.heap.size<=w.heap.size+1+1+1;omega) _⟩
   ·have hxi:¬ x.2.1=i:=by
     have h:(x.2.1==i)=false:=(by assumption);simpa using h
    exact⟨KeepsFrom.refl _ _,Below.refl _ _,λp hp'=>(List.mem_append.1 hp').elim (hp p) (λe=>by simp at e;subst e;exact hxi),hB⟩
  case done=>
   rintro D ys W hD rfl ⟨hne,hB⟩ hK;have hin:0<=i/\i<(len:Int):=by
    have h:(!decide (0<=i))=false/\(!decide (i<(len:Int)))=false:=(by assumption);simpa using h
   obtain⟨b,o,rfl,hbl,hcs⟩:=hs hin.1 hin.2;have hBw:Below w.heap.size w W:=hB0.trans (hB.mono (by omega));have bI':Boxed W (w.heap.size+1) 3 (.int .i64 i):=(hB.block _ (by omega)).trans bI;have bS':Boxed W (w.heap.size+1+1) 9 (.string ⟨#[]⟩):=(hB.block _ (by omega)).trans bS;have bB':Boxed W (w.heap.size+1+1+1) 4 (.bool false):=(hB.block _ (by omega)).trans bB;have bD':W.heap[w.heap.size]?=some (.cells #[.slice (some ⟨b,o,none⟩) len cap,.slice wl wn wc,.int .i64 lies,.int .i64 arm,.bool false] 27 (0,0)):=(hB.block _ (by omega)).trans bD1;have cD:W.cell? ⟨w.heap.size,0,none⟩=some (.slice (some ⟨b,o,none⟩) len cap):=(by simp only[World.cell?,bD'];rfl);have cI:=bI'.cell;have cS:=bS'.cell;have cB:=bB'.cell;have fS:=bS'.frozen;have fB:=bB'.frozen;have hcW:=(hBw.cell (p:=⟨b,o+i.toNat,none⟩) hbl).trans hcs;obtain⟨m,rfl⟩:∃ m:Nat,i=(m:Int):=⟨i.toNat,by omega⟩;rw[Int.toNat_natCast]at hcW
   gi_wp2
   have hK1:=(KeepsOthers.setCell W ⟨w.heap.size+1+1,0,none⟩ (.string s)).same D _ hK rfl;have hK2:=(KeepsOthers.setCell _ ⟨w.heap.size+1+1+1,0,none⟩ (.bool true)).same D _ hK1 rfl;refine⟨by simp,.inl ⟨_,_,rfl,run_takeDeferred hK2,?_⟩⟩;have bS2:=(bS'.set (.string s)).other (B':=w.heap.size+1+1+1) (by omega) (.bool true);have bB2:=(bB'.other (B':=w.heap.size+1+1) (by omega) (.string s)).set (.bool true);have h4:=cell_kept bS2.cell (grownBy_putObj' _ D (.deferred none)) (λr e=>by cases e;exact⟨_,hK2,rfl⟩);have h5:=cell_kept bB2.cell (grownBy_putObj' _ D (.deferred none)) (λr e=>by cases e;exact⟨_,hK2,rfl⟩);have hB2:Below w.heap.size w ((W.setCell ⟨w.heap.size+1+1,0,none⟩ (.string s)).setCell ⟨w.heap.size+1+1+1,0,none⟩ (.bool true)):=(hBw.setCell (p:=⟨w.heap.size+1+1,0,none⟩) (by show w.heap.size<=w.heap.size+1+1;omega) _).setCell (p:=⟨w.heap.size+1+1+1,0,none⟩) (by show w.heap.size<=w.heap.size+1+1+1;omega) _;refine⟨.tuple #[.string s,.bool true],?_,⟨_,_,rfl,.inr ⟨hin,rfl,.inl ⟨λj hj=>?_,rfl⟩⟩⟩,hB2.trans (belowK_b (w:=w) (Nat.le_refl _) _ D _ _ (by omega) hK2 rfl rfl)⟩
   ·simp[results,Tryz.f115,go_sem,h4,h5]
   ·have hx:=hne (j,zs[j]?.getD default) (by
     simp only[Tryz.down,List.mem_map,List.mem_range];exact⟨zs.length-1-j,by omega,by rw[show zs.length-1-(zs.length-1-j)=j by omega]⟩)
    exact hx
  case stop=>
   rintro D c pre W hD ⟨k,hk,rfl⟩ ⟨⟨rfl,ini,last,e1,e2,e3,bS2,bB2⟩,hBw⟩ hK
   gi_wp2
   refine⟨by simp,.inl ⟨_,_,rfl,run_takeDeferred hK,?_⟩⟩;have h4:=cell_kept bS2.cell (grownBy_putObj' _ D (.deferred none)) (λr e=>by cases e;exact⟨_,hK,rfl⟩);have h5:=cell_kept bB2.cell (grownBy_putObj' _ D (.deferred none)) (λr e=>by cases e;exact⟨_,hK,rfl⟩);obtain⟨k',rfl⟩:∃ k',k=k'+1:=by
    cases k with
    |zero=>simp[Tryz.down]at e1
    |succ k'=>exact⟨k',rfl⟩
   rw[Tryz.down_succ]at e1;obtain⟨rfl,e5⟩:=List.append_inj' e1 rfl;obtain rfl:(zs.length-1-k',zs[zs.length-1-k']?.getD default)=last:=(by simpa using e5);refine⟨.tuple #[.string (zs[zs.length-1-k']?.getD default).2,.bool true],?_,⟨_,_,rfl,.inr ⟨?_,rfl,.inr ⟨k',by omega,e3,rfl,λj hj=>e2 (zs.length-1-j,zs[zs.length-1-j]?.getD default) (by simp only[Tryz.down,List.mem_map,List.mem_range];exact⟨j,hj,rfl⟩)⟩⟩⟩,hBw.trans (belowK_b (w:=w) (Nat.le_refl _) W D _ _ (by omega) hK rfl rfl)⟩
   ·simp[results,Tryz.f115,go_sem,h4,h5]
   ·have h:(!decide (0<=i))=false/\(!decide (i<(len:Int)))=false:=(by assumption);simpa using h
end Go.Proofs
end
section
namespace Go.Proofs
open Go.RowKit Go.Shelf
attribute [local go_sem] Oper.semAt_some
theorem Tryz.read_down_in(F:Fence)(n:Nat)(hr:F.fn 115)(hh:F.fn 176)(hro:F.round=none)(a wl:Option Addr)(len cap wn wc:Nat)(lies arm i:Int)(w:World) :
 CallsIn F n Tryz.prog 115 #[.agg #[.slice a len cap,.slice wl wn wc,.int .i64 lies,.int .i64 arm,.bool true],.int .i64 i] w λe w'=>e=.returned (.tuple #[.string ⟨#[]⟩,.bool false])/\Below w.heap.size w w':=by
 refine callsIn_of_wp_marks Tryz.func115 rfl hr ?_ hro;simp only[Tryz.f115,List.size_toArray,List.length_cons,List.length_nil,Nat.reduceAdd,Nat.reduceSub,Array.replicate_succ,Array.replicate_zero,List.push_toArray,List.append_toArray,List.nil_append,List.cons_append]
 gi_wp2
 have bS:=(Boxed.new ((w.alloc (.cells #[.slice a len cap,.slice wl wn wc,.int .i64 lies,.int .i64 arm,.bool true] 27)).alloc (.cells #[.int .i64 i] 3)) 9 (.string ⟨#[]⟩)).alloc (.cells #[.bool false] 4);have bB:=(Boxed.new (((w.alloc (.cells #[.slice a len cap,.slice wl wn wc,.int .i64 lies,.int .i64 arm,.bool true] 27)).alloc (.cells #[.int .i64 i] 3)).alloc (.cells #[.string ⟨#[]⟩] 9)) 4 (.bool false));simp only[World.size_alloc]at bS bB;have c4:=bS.cell;have c5:=bB.cell;refine⟨.tuple #[.string ⟨#[]⟩,.bool false],?_,rfl,((((Below.refl _ w).alloc (Nat.le_refl _) _).alloc (by simp) _).alloc (by simp;omega) _).alloc (by simp;omega) _⟩;simp[results,Tryz.f115,go_sem,c4,c5]
end Go.Proofs
end
namespace Go.Proofs.YtahmkkjcchnonaaGreatDoor.Abs
section
open Go Go.Proofs Go.RowKit
theorem b8k(i:Int)(s:Bytes):∀ (w:List (Int×Bytes)),(∀ p∈w,p.1≠i)->O4 w i s=s:=by
 intro w
 induction w generalizing s with
 |nil=>intro _;rfl
 |cons p w ih=>
   intro h;show List.foldl _ (if p.1=i then p.2 else s) w=s;rw[if_neg (h p (by simp))];exact ih s λq hq=>h q (by simp[hq])
theorem cc7(a b:List (Int×Bytes))(i:Int)(s:Bytes):O4 (a++b) i s=O4 b i (O4 a i s):=e12
theorem cc6(w:List (Int×Bytes))(i:Int)(s:Bytes)(m:Nat)(hm:m<w.length)(h1:(w[m]?.getD default).1=i)(h2:∀ j,m<j->j<w.length->(w[j]?.getD default).1≠i):O4 w i s=(w[m]?.getD default).2:=by
 have e:w=w.take m++(w[m]::w.drop (m+1)):=by rw[<-dy0 hm,dz9]
 rw[e,cc7];show List.foldl _ (if w[m].1=i then w[m].2 else _) (w.drop (m+1))=_;rw[<-e];rw[dy1 hm,e13]at h1 ⊢;rw[if_pos h1];refine b8k i _ _ λp hp=>?_;obtain⟨j,hj,rfl⟩:=e07.1 hp;rw[e19]at hj
 have:=h2 (m+1+j) om om;rw[dy1 om,e13]at this;rw[List.getElem_drop];exact this
theorem b62:∀ {es:List (List PV)} {l:List (Int×Bytes)},Rx es=some l->es=l.map Bi
 |[],l,h=>by cases h;rfl
 |e::es,l,h=>by
   match e,h with
   |[.int .i64 n,.str s],h=>
     rw[Rx]at h;obtain⟨m',hm,rfl⟩:=dz0.1 h;rw[e2c,<-b62 hm];rfl
theorem bc3{E:Env}{w:World}{H:AH}(hs:Sim E w H){x:AV}{es:List (List PV)}{v:Value}(hx:Gv x=some es)(hr:Rep E x v) :
 ∃ a cap,v=.slice a es.length cap/\(es≠[]->∃ b off sz,a=some ⟨b,off,none⟩/\b<w.heap.size/\(∀ e∈es,e.length=sz)/\∀ (i:Nat) e (k:Nat) c,es[i]?=some e->e[k]?=some c->∃ u,w.cell? ⟨b,off+(i*sz+k),none⟩=some u/\RepP E.F c u):=by
 cases x with
 |emp=>
   cases hx;obtain⟨a,rfl⟩:=Hc hr;exact⟨a,0,rfl,λh=>absurd rfl h⟩
 |fz es' =>
   cases hx;obtain⟨a,cap,rfl,hcap,hb⟩:=Mp hr;refine⟨a,cap,rfl,λh0=>?_⟩;obtain⟨b,off,sz,cells,t,q,rfl,hF,hsz,hin,hc⟩:=hb h0;have hw:=hs.frz b _ (.inl hF);refine⟨b,off,sz,rfl,Pk hw,hsz,λi e k c he hk=>?_⟩;have hi:i<es.length:=by
    apply dx9;intro h;rw[dz3 om]at he;cases he
   have hke:k<sz:=by
    have e1:=hsz e (e02 he);apply dx9;intro h;rw[dz3 om]at hk;cases hk
   have hlt:off+(i*sz+k)<cells.size:=by
    have:i*sz+sz<=es.length*sz:=by
     rw[<-Nat.succ_mul];exact e03 _ hi
    omega
   refine⟨cells[off+(i*sz+k)],?_,hc i e k c _ he hk (dx8 hlt)⟩;show World.cell? w ⟨b,off+(i*sz+k),none⟩=_;simp only[World.cell?,hw];exact dx8 hlt
 |_=>cases hx
theorem b5j{F:Nat->Option Obj}{s:Bytes}{v:Value}(h:RepP F (.str s) v):v=.string ⟨s.toArray⟩:=by cases h;rfl
theorem c3p{F:Nat->Option Obj}{k:IntKind}{n:Int}{v:Value}(h:RepP F (.int k n) v):v=.int k n:=by cases h;rfl
theorem c1a{E:Env}{w:World}{H:AH}(hs:Sim E w H){x:AV}{es:List (List PV)}{l:List Bytes}{v:Value}(hx:Gv x=some es)(he:Ox es=some l)(hr:Rep E x v) :
 ∃ a cap,v=.slice a l.length cap/\∀ i,i<l.length->∃ b o,a=some ⟨b,o,none⟩/\b<w.heap.size/\w.cell? ⟨b,o+i,none⟩=some (.string ⟨(l.getD i default).toArray⟩):=by
 obtain rfl:=ar5 he;obtain⟨a,cap,rfl,h⟩:=bc3 hs hx hr;refine⟨a,cap,by rw[e1q],λi hi=>?_⟩;obtain⟨b,off,sz,rfl,hb,hsz,hc⟩:=h (by cases l with|nil=>cases hi|cons=>simp);have h1:1=sz:=hsz (Bh l[i]) (e2r.2 ⟨_,e1c hi,rfl⟩);subst h1;obtain⟨u,hu,hp⟩:=hc i (Bh l[i]) 0 (.str l[i]) (by rw[e0t,dy1 hi];rfl) rfl;refine⟨b,off,rfl,hb,?_⟩;rw[b5j hp]at hu;rw[Nat.mul_one,e2p]at hu;rw[hu,dx5,dy1 hi,e13]
theorem c51{E:Env}{w:World}{H:AH}(hs:Sim E w H){x:AV}{es:List (List PV)}{l:List (Int×Bytes)}{v:Value}(hx:Gv x=some es)(he:Rx es=some l)(hr:Rep E x v) :
 ∃ a cap,v=.slice a l.length cap/\Tryz.Puts w.heap.size w v (l.map λp=>(p.1,⟨p.2.toArray⟩)):=by
 obtain rfl:=b62 he;obtain⟨a,cap,rfl,h⟩:=bc3 hs hx hr;refine⟨a,cap,by rw[e1q],?_⟩;by_cases h0:l=[]
 ·subst h0;exact .inl ⟨a,cap,rfl,rfl⟩
 ·obtain⟨b,off,sz,rfl,hb,hsz,hc⟩:=h (by simpa using h0);refine .inr ⟨b,off,cap,by simp,hb,λj hj=>?_⟩;rw[e1q]at hj;have h2:2=sz:=hsz (Bi l[j]) (e2r.2 ⟨_,e1c hj,rfl⟩);subst h2;obtain⟨u,hu,hp⟩:=hc j (Bi l[j]) 0 (.int .i64 l[j].1) (by rw[e0t,dy1 hj];rfl) rfl;obtain⟨u2,hu2,hp2⟩:=hc j (Bi l[j]) 1 (.str l[j].2) (by rw[e0t,dy1 hj];rfl) rfl;rw[c3p hp]at hu;rw[b5j hp2]at hu2;rw[e0t,dy1 hj];exact⟨by rw[<-e2p (off+j*2),Nat.add_assoc];exact hu,by rw[Nat.add_assoc];exact hu2⟩
theorem b5z{x z:AV}{es fs:List (List PV)}{l:List Bytes}{ws:List (Int×Bytes)}(hx:Gv x=some es)(he:Ox es=some l)(hz:Gv z=some fs)(hf:Rx fs=some ws)(hn:ws.length<=1000000)(lies arm i:Int)(down:Bool)(s:Bytes)(ok:Bool)
 (h:(Gw ⟨some l,some ws,0,0,down⟩ i=some s/\ok=true)\/(Gw ⟨some l,some ws,0,0,down⟩ i=none/\s=[]/\ok=false)) :
 C Tryz.prog 115 [.agg [x,z,.int .i64 lies,.int .i64 arm,.bool down],.int .i64 i] [] (λy' G'=>y'=.tuple [.str s,.bool ok]/\G'=[]):=by
 refine a5p ⟨Tryz.f115,Tryz.func115,kk,kk⟩ (v:=.tuple #[.string ⟨s.toArray⟩,.bool ok]) ?_ λE=>.tuple _ _ rfl λk c v hc hv=>?_
 ·intro E w vs hs hr;obtain⟨v,u,rfl,h1,h2⟩:=hr.two;rw[Ec h2];obtain⟨⟨vl⟩,rfl,hlen,hcs⟩:=Wh h1
  match vl,hlen,hcs with
  |[v0,v1,v2,v3,v4],_,hcs=>
    have r0:=hcs 0 _ _ rfl rfl;have r1:=hcs 1 _ _ rfl rfl;have r2:=Ec (hcs 2 _ _ rfl rfl);have r3:=Ec (hcs 3 _ _ rfl rfl);have r4:=Nr (hcs 4 _ _ rfl rfl);subst r2 r3 r4;obtain⟨a,cap,rfl,hl⟩:=c1a hs hx he r0;obtain⟨wl,wc,rfl,hp⟩:=c51 hs hz hf r1;have hp':Tryz.Puts w.heap.size w (.slice wl ws.length wc) (ws.map λp=>(p.1,(⟨p.2.toArray⟩:ByteArray))):=hp
    refine(callsIn_wide (n:=3)).1 ?_;cases down with
    |true=>
      have hD:Gw ⟨some l,some ws,0,0,true⟩ i=none:=(by rw[Gw,if_neg (by simp)]);obtain⟨rfl,rfl⟩:s=[]/\ok=false:=by
       rcases h with h|h
       ·rw[hD]at h;cases h.1
       ·exact h.2
      refine(Tryz.read_down_in Fence.wide 3 trivial trivial rfl a wl l.length cap ws.length wc lies arm i w).mono ?_;rintro e w' ⟨rfl,hb⟩;exact⟨rfl,hb⟩
    |false=>
      refine(Tryz.read_in Fence.wide 3 trivial trivial trivial trivial rfl (e2z _) a wl l.length cap ws.length wc lies arm i (ws.map λp=>(p.1,(⟨p.2.toArray⟩:ByteArray))) (by rw[e1q];omega) w hp' ⟨(l.getD i.toNat default).toArray⟩ (λh0 h1=>hl i.toNat om)).mono ?_;rintro e w' ⟨⟨t,ok',rfl,hc⟩,hb⟩;refine⟨?_,hb⟩;rcases hc with ⟨hno,rfl,rfl⟩|⟨hin,rfl,hc⟩
      ·have hD:Gw ⟨some l,some ws,0,0,false⟩ i=none:=(by rw[Gw,if_neg (by simp only[Bn];intro hc;exact hno hc.2)]);obtain⟨rfl,rfl⟩:s=[]/\ok=false:=by
        rcases h with h|h
        ·rw[hD]at h;cases h.1
        ·exact h.2
       rfl
      ·have hD:Gw ⟨some l,some ws,0,0,false⟩ i=some (O4 ws i (l.getD i.toNat default)):=(by rw[Gw,if_pos ⟨rfl,hin.1,hin.2⟩];rfl);obtain⟨rfl,rfl⟩:O4 ws i (l.getD i.toNat default)=s/\ok=true:=by
        rcases h with h|h
        ·rw[hD]at h;exact⟨Option.some.inj h.1,h.2⟩
        ·rw[hD]at h;cases h.1
       have key:t=⟨(O4 ws i (l.getD i.toNat default)).toArray⟩:=by
        rw[e1q]at hc;rcases hc with ⟨hne,rfl⟩|⟨k,hk,hki,rfl,hne⟩
        ·rw[b8k];intro p hp;obtain⟨j,hj,rfl⟩:=e07.1 hp
         have:=hne j hj
         rwa [e0t,dy1 hj]at this
        ·have hm:ws.length-1-k<ws.length:=om;rw[e0t,dy1 hm]at hki ⊢;rw[cc6 ws i _ (ws.length-1-k) hm (by rw[dy1 hm];exact hki) (λj hj1 hj2=>by
          have:=hne (ws.length-1-j) om;rw[show ws.length-1-(ws.length-1-j)=j by omega,e0t,dy1 hj2]at this
          rwa [dy1 hj2]),dy1 hm]
         rfl
       rw[key]
 ·match k,hc,hv with
  |0,hc,hv=>cases hc;cases hv;exact .pure (x:=.str _) (.str _)
  |1,hc,hv=>cases hc;cases hv;exact .pure (x:=.bool _) (.bool _)
  |k+2,hc,_=>cases hc
theorem c4x{args:List AV}{H:AH}{y:AV}{G:AH}(h:Wn 115 args H=some (y,G)):C Tryz.prog 115 args H (λy' G'=>y'=y/\G'=G):=by
 unfold Wn at h;split at h
 ·rename_i x z lies arm down i;obtain⟨l,hl,h⟩:=dy6.1 h;obtain⟨es,hx,he⟩:=dy6.1 hl;obtain⟨ws,hw,h⟩:=dy6.1 h;obtain⟨fs,hz,hf⟩:=dy6.1 hw;split at h
  ·rename_i hc;split at h
   ·rename_i s hs;cases h;exact b5z hx he hz hf hc.2 lies arm i down s true (.inl ⟨hs,rfl⟩)
   ·rename_i hs;cases h;exact b5z hx he hz hf hc.2 lies arm i down [] false (.inr ⟨hs,rfl,rfl⟩)
  ·cases h
 ·cases h
end
theorem treeAgrees_C(pk:Sl UInt8):C Tryz.prog 3 [A0 pu8 pk] [] (λx _=>x=.bool true):=
 (dw3 c12 (c6k c6l (λ_ _ _ _ h=>c4x h)) (bz3 db9 pk [])).mono λ_ _ h=>h.1
end Go.Proofs.YtahmkkjcchnonaaGreatDoor.Abs
