/-
  Part of the proof: no condition. (That the trees are the program's code.)
-/
import Derived.Test.YtbngojdlgfhacaaGreatDoorPfE
set_option maxRecDepth 100000
set_option maxHeartbeats 8000000
set_option linter.unusedSimpArgs false
set_option linter.unusedVariables false
set_option linter.unusedSectionVars false
namespace Go.Proofs.YtbngojdlgfhacaaGreatDoor.Abs
theorem h94:JJ 94 g94:=hI Tryz.func94
theorem h95:JJ 95 g95:=hI Tryz.func95
theorem h96:JJ 96 g96:=hI Tryz.func96
theorem h97:JJ 97 g97:=hI Tryz.func97
theorem dx4:JJ 105 ak4:=hI Tryz.func105
theorem dx3:JJ 106 ak3:=hI Tryz.func106
theorem dx2:JJ 107 a5e:=hI Tryz.func107
theorem dx1:JJ 108 ak2:=hI Tryz.func108
theorem dx0:JJ 109 a5d:=hI Tryz.func109
theorem dw9:JJ 110 a19:=hI Tryz.func110
theorem dw8:JJ 111 ak0:=hI Tryz.func111
theorem dw7:JJ 112 a5c:=hI Tryz.func112
theorem dw6:JJ 113 a18:=hI Tryz.func113
theorem dw5:JJ 115 aj9:=hI Tryz.func115
theorem dw4:JJ 116 aj8:=hI Tryz.func116
theorem dw3:JJ 117 aj7:=hI Tryz.func117
theorem dw2:JJ 118 Y0:=hI Tryz.func118
theorem dw1:JJ 119 aj6:=hI Tryz.func119
theorem dw0:JJ 120 aj5:=hI Tryz.func120
theorem dv9:JJ 121 aj4:=hI Tryz.func121
theorem dv8:JJ 122 a5a:=hI Tryz.func122
theorem dv7:JJ 123 aj3:=hI Tryz.func123
theorem dv6:JJ 124 Xz:=hI Tryz.func124
theorem dv5:JJ 125 aj2:=hI Tryz.func125
theorem dv4:JJ 126 aj1:=hI Tryz.func126
theorem dv3:JJ 127 aj0:=hI Tryz.func127
theorem dv2:JJ 128 a17:=hI Tryz.func128
theorem dv1:JJ 129 a59:=hI Tryz.func129
theorem dv0:JJ 130 Js:=hI Tryz.func130
theorem du9:JJ 131 ai8:=hI Tryz.func131
theorem du8:JJ 133 Xy:=hI Tryz.func133
theorem du7:JJ 134 Xx:=hI Tryz.func134
theorem du6:JJ 135 ai7:=hI Tryz.func135
theorem du5:JJ 136 ai6:=hI Tryz.func136
theorem du4:JJ 137 ai5:=hI Tryz.func137
theorem du3:JJ 138 ai4:=hI Tryz.func138
theorem du2:JJ 139 ai3:=hI Tryz.func139
theorem du1:JJ 140 ai1:=hI Tryz.func140
theorem du0:JJ 141 a16:=hI Tryz.func141
theorem dt9:JJ 147 a15:=hI Tryz.func147
theorem dt8:JJ 148 ai0:=hI Tryz.func148
theorem dt7:JJ 149 a58:=hI Tryz.func149
theorem dt6:JJ 150 ah8:=hI Tryz.func150
theorem dt5:JJ 151 ah7:=hI Tryz.func151
theorem dt4:JJ 152 ah6:=hI Tryz.func152
theorem dt3:JJ 153 ah5:=hI Tryz.func153
theorem dt2:JJ 155 a57:=hI Tryz.func155
theorem dt1:JJ 156 ah4:=hI Tryz.func156
theorem dt0:JJ 157 ah3:=hI Tryz.func157
theorem ds9:JJ 158 ah2:=hI Tryz.func158
theorem ds8:JJ 159 ah1:=hI Tryz.func159
theorem ds7:JJ 160 ag9:=hI Tryz.func160
theorem ds6:JJ 161 ag8:=hI Tryz.func161
theorem ds5:JJ 162 ag7:=hI Tryz.func162
theorem ds4:JJ 163 Tb:=hI Tryz.func163
theorem ds3:JJ 164 ag6:=hI Tryz.func164
theorem ds2:JJ 165 ag5:=hI Tryz.func165
theorem ds1:JJ 166 ag4:=hI Tryz.func166
theorem ds0:JJ 167 ag3:=hI Tryz.func167
theorem dr9:JJ 168 ag2:=hI Tryz.func168
theorem dr8:JJ 170 ag1:=hI Tryz.func170
theorem dr6:JJ 172 af9:=hI Tryz.func172
theorem dr5:JJ 173 af8:=hI Tryz.func173
theorem dr4:JJ 174 af7:=hI Tryz.func174
theorem dr3:JJ 177 Ta:=hI Tryz.func177
theorem dr2:JJ 178 af6:=hI Tryz.func178
theorem dr1:JJ 179 af5:=hI Tryz.func179
theorem dq9:JJ 180 af4:=hI Tryz.func180
theorem dq8:JJ 181 af3:=hI Tryz.func181
theorem dq7:JJ 182 a55:=hI Tryz.func182
theorem dq6:JJ 183 af2:=hI Tryz.func183
theorem dq5:JJ 184 a54:=hI Tryz.func184
theorem dq4:JJ 185 a13:=hI Tryz.func185
theorem dq3:JJ 186 Oy:=hI Tryz.func186
theorem dq2:JJ 187 a52:=hI Tryz.func187
theorem dq0:JJ 190 af1:=hI Tryz.func190
theorem dp9:JJ 191 af0:=hI Tryz.func191
theorem dp8:JJ 192 a4z:=hI Tryz.func192
theorem dp7:JJ 193 ae9:=hI Tryz.func193
theorem dp6:JJ 196 ae8:=hI Tryz.func196
theorem dp5:JJ 197 a12:=hI Tryz.func197
theorem dp4:JJ 198 ae7:=hI Tryz.func198
theorem dp2:JJ 211 ae6:=hI Tryz.func211
theorem dp1:JJ 212 ae5:=hI Tryz.func212
theorem dp0:JJ 221 ae4:=hI Tryz.func221
end Go.Proofs.YtbngojdlgfhacaaGreatDoor.Abs
