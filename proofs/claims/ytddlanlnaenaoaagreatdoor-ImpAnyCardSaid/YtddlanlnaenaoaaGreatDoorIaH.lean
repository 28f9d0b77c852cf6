/-
  Part of the proof: no condition. (That the trees are the program's code.)
-/
import Derived.Test.YtddlanlnaenaoaaGreatDoorIaE
set_option maxRecDepth 100000
set_option maxHeartbeats 8000000
set_option linter.unusedSimpArgs false
set_option linter.unusedVariables false
set_option linter.unusedSectionVars false
set_option linter.defProp false
namespace Go.Proofs.YtddlanlnaenaoaaGreatDoor.Abs
open Tryz
def ea8:=hI func183 Y8
def ea7:=hI func184 a0i
def ea6:=hI func185 a3s
def ea5:=hI func186 ac6
def ea4:=hI func187 ac5
def ea3:=hI func188 ac4
def ea2:=hI func189 a0h
def ea0:=hI func190 a3q
def e9z:=hI func191 ac3
def e9y:=hI func192 a3p
def e9x:=hI func193 ac2
def e9w:=hI func194 a0g
def e9v:=hI func195 ac1
def e9u:=hI func197 ac0
def e9t:=hI func198 ab9
def e9s:=hI func199 a3o
def e9r:=hI func200 ab8
def e9q:=hI func201 ab7
def e9p:=hI func202 a3n
def e9n:=hI func211 ab6
def e9m:=hI func227 a0e
def e9l:=hI func228 ab4
def e9j:=hI func230 ab2
def e9i:=hI func236 T3
def e9h:=hI func237 a0d
def e9g:=hI func238 ab1
def e9f:=hI func239 a0c
def e9d:=hI func240 a3m
def e9c:=hI func241 L7
def e9b:=hI func242 ab0
def e9a:=hI func243 aa9
def e99:=hI func244 a3l
def e98:=hI func245 aa8
def e97:=hI func246 Y6
def e96:=hI func247 Y5
def e95:=hI func248 aa7
def c91:=hI func249 aa6
def e93:=hI func250 aa4
def e92:=hI func251 aa3
def e91:=hI func252 Xz
def e90:=hI func253 aa2
def e8z:=hI func254 aa1
def e8y:=hI func255 aa0
def e8x:=hI func259 Vs
def e8v:=hI func260 a3k
def e8u:=hI func261 a9z
def e8t:=hI func262 a9y
def e8s:=hI func263 a9x
def e8r:=hI func264 a3j
def e8q:=hI func265 a0a
def e8p:=hI func266 a9w
def e8o:=hI func267 a9v
def e8n:=hI func268 Vr
def e8m:=hI func269 a3i
def e8k:=hI func279 a3g
def e8i:=hI func288 a9t
def e8h:=hI func289 a9s
def e8f:=hI func290 a9r
def e8e:=hI func291 a9q
def e8d:=hI func292 Uj
def e8c:=hI func293 a9p
def e8b:=hI func294 a9o
def e8a:=hI func295 a9n
def e89:=hI func296 a9m
def e88:=hI func297 a9l
def e87:=hI func298 a09
def e86:=hI func299 a9k
def e85:=hI func300 a9j
def e84:=hI func301 a3e
def e83:=hI func302 a9i
def e82:=hI func305 a3d
def e81:=hI func306 a08
def e80:=hI func307 a3c
def e7z:=hI func308 a9h
def e7y:=hI func309 a9g
def e7w:=hI func310 a9f
def e7v:=hI func311 a9e
def e7u:=hI func312 a07
def e7t:=hI func313 a9d
def e7s:=hI func314 a9c
def e7r:=hI func315 a3a
def e7q:=hI func316 a9b
def e7p:=hI func317 a9a
def e7o:=hI func318 a99
def e7n:=hI func319 a98
def e7m:=hI func320 a96
def e7l:=hI func321 a95
def e7k:=hI func322 a94
def e7j:=hI func323 a93
def e7i:=hI func324 a92
def e7h:=hI func325 Xy
def e7f:=hI func331 Qd
def e7e:=hI func332 a91
def e7d:=hI func333 a90
def e7c:=hI func334 a38
def e7b:=hI func335 a8z
def e7a:=hI func336 Ui
def e79:=hI func337 a8y
def e78:=hI func338 a8x
def e77:=hI func339 a8w
def e75:=hI func340 a8u
def e74:=hI func342 a8t
def e73:=hI func343 a8s
def e72:=hI func344 a8r
def e71:=hI func345 a8q
def e6z:=hI func347 a36
def e6y:=hI func348 a8p
def e6x:=hI func349 a8o
def e6v:=hI func350 a8m
def e6u:=hI func354 a8l
def e6t:=hI func355 a8k
def e6s:=hI func357 a06
def e6q:=hI func367 a8j
def e6p:=hI func368 a8i
def e6n:=hI func370 a34
def e6m:=hI func371 a8g
def e6l:=hI func372 a33
def e6k:=hI func373 a05
def e6j:=hI func374 a32
def e6i:=hI func376 a8f
def e6h:=hI func382 a8e
end Go.Proofs.YtddlanlnaenaoaaGreatDoor.Abs
