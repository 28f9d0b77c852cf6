/-
  Part of the proof: no condition. (That the trees are the program's code.)
-/
import Derived.Test.YtbngojdlgfhacaaGreatDoorPfE
set_option maxRecDepth 100000
set_option maxHeartbeats 8000000
set_option linter.unusedSimpArgs false
set_option linter.unusedVariables false
set_option linter.unusedSectionVars false
namespace Go.Proofs.YtbngojdlgfhacaaGreatDoor.Abs
theorem h3:JJ 3 g3:=hI Tryz.func3
theorem h4:JJ 4 g4:=hI Tryz.func4
theorem h5:JJ 5 g5:=hI Tryz.func5
theorem h6:JJ 6 g6:=hI Tryz.func6
theorem h7:JJ 7 g7:=hI Tryz.func7
theorem h8:JJ 8 g8:=hI Tryz.func8
theorem h9:JJ 9 g9:=hI Tryz.func9
theorem Va:JJ 10 Y1:=hI Tryz.func10
theorem h11:JJ 11 g11:=hI Tryz.func11
theorem S4:JJ 12 g12:=hI Tryz.func12
theorem h13:JJ 13 g13:=hI Tryz.func13
theorem h14:JJ 14 g14:=hI Tryz.func14
theorem h15:JJ 15 g15:=hI Tryz.func15
theorem T6:JJ 16 g16:=hI Tryz.func16
theorem h17:JJ 17 g17:=hI Tryz.func17
theorem h18:JJ 18 g18:=hI Tryz.func18
theorem h19:JJ 19 g19:=hI Tryz.func19
theorem h20:JJ 20 g20:=hI Tryz.func20
theorem h21:JJ 21 Gc:=hI Tryz.func21
theorem h22:JJ 22 T9:=hI Tryz.func22
theorem h23:JJ 23 g23:=hI Tryz.func23
theorem h24:JJ 24 g24:=hI Tryz.func24
theorem h25:JJ 25 g25:=hI Tryz.func25
theorem h26:JJ 26 g26:=hI Tryz.func26
theorem h27:JJ 27 g27:=hI Tryz.func27
theorem h28:JJ 28 g28:=hI Tryz.func28
theorem h29:JJ 29 g29:=hI Tryz.func29
theorem Xv:JJ 30 g30:=hI Tryz.func30
theorem h31:JJ 31 g31:=hI Tryz.func31
theorem S3:JJ 32 g32:=hI Tryz.func32
theorem h33:JJ 33 g33:=hI Tryz.func33
theorem h34:JJ 34 g34:=hI Tryz.func34
theorem h35:JJ 35 g35:=hI Tryz.func35
theorem h36:JJ 36 g36:=hI Tryz.func36
theorem h37:JJ 37 g37:=hI Tryz.func37
theorem h38:JJ 38 g38:=hI Tryz.func38
theorem h39:JJ 39 g39:=hI Tryz.func39
theorem h40:JJ 40 g40:=hI Tryz.func40
theorem h41:JJ 41 g41:=hI Tryz.func41
theorem h42:JJ 42 g42:=hI Tryz.func42
theorem h43:JJ 43 g43:=hI Tryz.func43
theorem h44:JJ 44 T8:=hI Tryz.func44
theorem h45:JJ 45 g45:=hI Tryz.func45
theorem h46:JJ 46 g46:=hI Tryz.func46
theorem h47:JJ 47 T7:=hI Tryz.func47
theorem h48:JJ 48 g48:=hI Tryz.func48
theorem h49:JJ 49 g49:=hI Tryz.func49
theorem h50:JJ 50 Vd:=hI Tryz.func50
theorem h51:JJ 51 g51:=hI Tryz.func51
theorem h57:JJ 57 g57:=hI Tryz.func57
theorem h58:JJ 58 g58:=hI Tryz.func58
theorem h59:JJ 59 g59:=hI Tryz.func59
theorem h60:JJ 60 g60:=hI Tryz.func60
theorem h61:JJ 61 g61:=hI Tryz.func61
theorem h62:JJ 62 g62:=hI Tryz.func62
theorem h63:JJ 63 g63:=hI Tryz.func63
theorem h64:JJ 64 g64:=hI Tryz.func64
theorem h65:JJ 65 g65:=hI Tryz.func65
theorem h66:JJ 66 g66:=hI Tryz.func66
theorem h67:JJ 67 g67:=hI Tryz.func67
theorem h68:JJ 68 g68:=hI Tryz.func68
theorem h69:JJ 69 g69:=hI Tryz.func69
theorem h70:JJ 70 g70:=hI Tryz.func70
theorem h72:JJ 72 g72:=hI Tryz.func72
theorem h73:JJ 73 g73:=hI Tryz.func73
theorem h74:JJ 74 g74:=hI Tryz.func74
theorem h75:JJ 75 g75:=hI Tryz.func75
theorem h76:JJ 76 g76:=hI Tryz.func76
theorem h77:JJ 77 Lm:=hI Tryz.func77
theorem h78:JJ 78 O3:=hI Tryz.func78
theorem h79:JJ 79 g79:=hI Tryz.func79
theorem h80:JJ 80 g80:=hI Tryz.func80
theorem h81:JJ 81 g81:=hI Tryz.func81
theorem h82:JJ 82 S6:=hI Tryz.func82
theorem h83:JJ 83 g83:=hI Tryz.func83
theorem h84:JJ 84 Vc:=hI Tryz.func84
theorem h85:JJ 85 Vb:=hI Tryz.func85
theorem h86:JJ 86 g86:=hI Tryz.func86
theorem h87:JJ 87 g87:=hI Tryz.func87
theorem h88:JJ 88 Xw:=hI Tryz.func88
theorem h89:JJ 89 g89:=hI Tryz.func89
theorem h90:JJ 90 g90:=hI Tryz.func90
theorem h91:JJ 91 g91:=hI Tryz.func91
theorem h92:JJ 92 g92:=hI Tryz.func92
theorem h93:JJ 93 g93:=hI Tryz.func93
end Go.Proofs.YtbngojdlgfhacaaGreatDoor.Abs
