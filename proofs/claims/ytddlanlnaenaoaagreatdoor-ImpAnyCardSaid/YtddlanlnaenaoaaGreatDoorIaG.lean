/-
  Part of the proof: no condition. (That the trees are the program's code.)
-/
import Derived.Test.YtddlanlnaenaoaaGreatDoorIaE
set_option maxRecDepth 100000
set_option maxHeartbeats 8000000
set_option linter.unusedSimpArgs false
set_option linter.unusedVariables false
set_option linter.unusedSectionVars false
set_option linter.defProp false
namespace Go.Proofs.YtddlanlnaenaoaaGreatDoor.Abs
open Tryz
def h3:=hI func3 g3
def h4:=hI func4 g4
def h5:=hI func5 g5
def h6:=hI func6 g6
def h7:=hI func7 g7
def h8:=hI func8 g8
def h9:=hI func9 g9
def Xt:=hI func10 Ou
def h11:=hI func11 g11
def R7:=hI func12 g12
def h13:=hI func13 g13
def Xs:=hI func14 g14
def h15:=hI func15 g15
def Vo:=hI func16 g16
def h17:=hI func17 g17
def h18:=hI func18 g18
def h19:=hI func19 g19
def h20:=hI func20 Ot
def h21:=hI func21 Ht
def h22:=hI func22 g22
def h23:=hI func23 g23
def h24:=hI func24 Y7
def h25:=hI func25 g25
def h26:=hI func26 Oe
def h27:=hI func27 g27
def h28:=hI func28 g28
def h29:=hI func29 Rb
def Ma:=hI func30 g30
def h31:=hI func31 g31
def Ud:=hI func32 g32
def h33:=hI func33 Xx
def h34:=hI func34 g34
def h35:=hI func35 g35
def h36:=hI func36 g36
def h37:=hI func37 g37
def h43:=hI func43 g43
def h44:=hI func44 g44
def h45:=hI func45 g45
def h46:=hI func46 g46
def h47:=hI func47 g47
def h48:=hI func48 g48
def h49:=hI func49 g49
def h50:=hI func50 g50
def h51:=hI func51 Xw
def h52:=hI func52 g52
def h53:=hI func53 Ob
def h54:=hI func54 Xv
def h55:=hI func55 g55
def h56:=hI func56 g56
def h57:=hI func57 g57
def h58:=hI func58 g58
def h59:=hI func59 g59
def h60:=hI func60 g60
def h61:=hI func61 g61
def h62:=hI func62 g62
def h63:=hI func63 g63
def h65:=hI func65 Xu
def h66:=hI func66 Vq
def h67:=hI func67 g67
def h68:=hI func68 g68
def h73:=hI func73 Uh
def h74:=hI func74 g74
def h75:=hI func75 g75
def h76:=hI func76 Oa
def h77:=hI func77 g77
def h78:=hI func78 g78
def h79:=hI func79 g79
def h80:=hI func80 g80
def h81:=hI func81 g81
def h82:=hI func82 g82
def h94:=hI func94 g94
def h95:=hI func95 g95
def h96:=hI func96 g96
def h97:=hI func97 g97
def h98:=hI func98 Ug
def h99:=hI func99 Mc
def ef2:=hI func100 ag0
def ef1:=hI func101 af9
def ef0:=hI func102 a0l
def ee9:=hI func103 af8
def ee8:=hI func105 af7
def ee7:=hI func106 af6
def ee6:=hI func107 af5
def ee5:=hI func108 af4
def ee4:=hI func109 af3
def ee3:=hI func112 Uk
def ee2:=hI func113 af2
def ee1:=hI func114 af1
def ee0:=hI func115 af0
def ed9:=hI func116 Vv
def ed8:=hI func117 ae9
def ed7:=hI func118 ae8
def ed6:=hI func119 Qe
def ed5:=hI func120 ae6
def ed4:=hI func121 ae5
def ed3:=hI func122 ae4
def ed2:=hI func123 ae3
def ed1:=hI func124 a3y
def ed0:=hI func125 ae2
def ec9:=hI func126 ae1
def ec8:=hI func127 Vu
def a01:=hI func128 b4z
def ec7:=hI func154 a3w
def ec6:=hI func155 ae0
def ec5:=hI func156 ad9
def ec4:=hI func157 a0k
def ec3:=hI func158 ad8
def ec2:=hI func159 ad7
def ec1:=hI func160 ad5
def ec0:=hI func161 ad4
def eb9:=hI func163 ad3
def eb8:=hI func164 ad1
def eb7:=hI func165 ad0
def eb6:=hI func166 ac9
def eb5:=hI func167 ac8
def eb4:=hI func168 ac7
def eb3:=hI func179 Vt
def eb1:=hI func180 a3t
def eb0:=hI func181 a0j
def ea9:=hI func182 M1
end Go.Proofs.YtddlanlnaenaoaaGreatDoor.Abs
