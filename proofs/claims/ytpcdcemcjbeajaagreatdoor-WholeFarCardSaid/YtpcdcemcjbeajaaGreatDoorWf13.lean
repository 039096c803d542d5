/- WholeFar: FarD, FarS, FarU, FarV, FarW. -/
import Derived.Test.YtpcdcemcjbeajaaGreatDoorWf11
import Derived.Test.YtpcdcemcjbeajaaGreatDoorWf12
section
set_option linter.unusedVariables false
set_option linter.unusedSimpArgs false
set_option maxRecDepth 100000
namespace Go.Proofs.YtpcdcemcjbeajaaGreatDoor
open Go Go.RowKit
noncomputable def b0 : Nm × O := (mn 1, .c 42 0 0 [pP 2 0, tK 1, oS 5 5])
noncomputable def b1 : Nm × O := (mn 2, .c 77 0 0 [pP 3 0, tK 51, tK 52, tK 53, tK 54, tK 55, tK 56, tK 57, tK 58, tK 59])
noncomputable def b2 : Nm × O := (mn 3, .c 103 0 0 [tK 11, tK 12, iI 2, iI 2, iI 1, oS 4 1, pP 6 0, .x (.m (mn 10)), tK 13, tK 14, tK 15, pP 15 0, pP 11 0, tK 16, tK 4, xpn, xsn, tK 9])
noncomputable def b3 : Nm × O := (mn 4, .op 2)
noncomputable def b4 : Nm × O := (mn 5, .op 1)
noncomputable def b5 : Nm × O := (mn 6, .c 212 0 0 [iW 1048576, pP 7 0])
noncomputable def b6 : Nm × O := (mn 7, .c 332 0 0 [iI 256, iW 1, rL 8 1, xsn, iI 1])
noncomputable def b7 : Nm × O := (mn 8, .c 488 3 1 [pP 9 0, iW 1, bT])
noncomputable def b8 : Nm × O := (mn 9, .c 367 0 0 [iW 3, iU 0, tK 10, tK 35, xsn])
noncomputable def b9 : Nm × O := (mn 10, .m [(.s (iU 4294967297), .a [iI 0, iI 0, iI 0], 0)] 1)
noncomputable def b10 : Nm × O := (mn 11, .c 184 0 0 [rL 12 1, iI 1])
noncomputable def b11 : Nm × O := (mn 12, .c 159 1 1 [pP 13 0])
noncomputable def b12 : Nm × O := (mn 13, .c 164 0 0 [rL 14 343, rL 40 2, bT, iW 1, iW 0, iW 0, iI 0])
noncomputable def b13 : Nm × O := (mn 14, .c 5 1 343 formC)
noncomputable def b14 : Nm × O := (mn 20, .c 118 0 0 [bF, bF, pP 21 0, pP 23 0, tK 17, tK 18, pP 27 0, xsn])
noncomputable def b15 : Nm × O := (mn 21, .c 191 0 0 [iI 256, iW 1, rL 22 2, xsn, iI 2])
noncomputable def b16 : Nm × O := (mn 22, .c 344 21 2 [iI 1, iU 4294967297, iB 0, iB 0, iB 0, iB 0, iB 0, iB 0, iB 0, iB 0, iB 0, iB 0, iB 0, iB 0, iB 0, iB 0, iB 0, iB 0, iW 1, iW 1, bT, iI 1, iU 4294967297, iB 0, iB 0, iB 0, iB 0, iB 0, iB 0, iB 0, iB 0, iB 0, iB 0, iB 0, iB 0, iB 0, iB 0, iB 0, iB 0, iW 1, iW 1, bT])
noncomputable def b17 : Nm × O := (mn 23, .c 197 0 0 [iU 0, pP 24 0])
noncomputable def b18 : Nm × O := (mn 24, .c 326 0 0 [iI 1024, iW 1, rL 25 1, xsn, iI 1])
noncomputable def b19 : Nm × O := (mn 25, .c 363 3 1 [pP 26 0, iW 1, bT])
noncomputable def b20 : Nm × O := (mn 26, .c 263 0 0 [iU 4294967297, iB 0, iB 0, iB 0, iB 0, iB 0, iB 0, iB 0, iB 0, iB 0, iB 0, iB 0, iB 0, iB 0, iB 0, iB 0, iB 0, tK 34, iW 0, iW 1, iW 0])
noncomputable def b21 : Nm × O := (mn 1, .c 42 0 0 [pP 2 0, tK 1, oS 130 61])
noncomputable def b22 : Nm × O := (mn 3, .c 103 0 0 [tK 11, tK 12, iI 2, iI 2, iI 1, oS 4 1, pP 6 0, .x (.m (mn 10)), tK 13, tK 14, tK 15, pP 15 0, pP 11 0, tK 16, tK 60, xpn, xsn, rL 127 1])
noncomputable def b23 : Nm × O := (mn 9, .c 367 0 0 [iW 4, iU 0, tK 10, tK 35, xsn])
noncomputable def b24 : Nm × O := (mn 13, .c 164 0 0 [rL 14 343, rL 40 2, bT, iW 1, iW 0, iW 1, iI 0])
noncomputable def b25 : Nm × O := (mn 20, .c 118 0 0 [bF, bF, pP 21 0, pP 23 0, tK 17, tK 18, pP 27 0, rL 123 1])
noncomputable def b26 : Nm × O := (mn 114, .c 89 3 6 [iI 3, iI 0, iI 0, iI 2, iI 0, iI 0, iI 5, iI 0, iI 0, iI 4, iI 0, iI 0, iI 3, iI 0, iI 0, iI 11, iI 0, iI 0])
noncomputable def b27 : Nm × O := (mn 115, .c 531 0 0 [rL 114 6, tK 3, iI 0, xsn, bF, bF])
noncomputable def b28 : Nm × O := (mn 120, .c 295 0 0 [iU 4294967297, iI 0, iI 0, tK 3, pP 115 0, iI 0, iU 0, iU 0, bF, iI 0, iI 0, iI 0, iI 0, iI 0, iU 0, iU 0, iB 0, iB 0, iB 0, iB 0, iB 0, iB 0, iB 0, iB 0, iB 0, iB 0, iB 0, iB 0, iB 0, iB 0, iB 0, iB 0, iI 0, iI 0, iI 0, xsn, tK 60])
noncomputable def b29 : Nm × O := (mn 121, .c 290 0 0 [pP 120 0])
noncomputable def b30 : Nm × O := (mn 123, .c 289 1 1 [.l (mn 121) 0 1 1 false])
noncomputable def b31 : Nm × O := (mn 130, .op 11)
noncomputable def b32 : Nm × O := (mn 20, .c 118 0 0 [bF, bF, pP 21 0, pP 23 0, tK 17, tK 18, pP 27 0, rL 29 0])
noncomputable def b33 : Nm × O := (mn 29, .c 289 1 0 [])
noncomputable def b34 : Nm × O := (mn 20, .c 118 0 0 [bF, bF, pP 21 0, pP 23 0, tK 17, tK 18, pP 27 0, rL 29 1])
noncomputable def b35 : Nm × O := (mn 3, .c 103 0 0 [tK 11, tK 12, iI 2, iI 2, iI 1, oS 4 1, pP 6 0, .x (.m (mn 10)), tK 13, tK 14, tK 15, pP 15 0, pP 11 0, tK 16, tK 4, xpn, xsn, xsn])
noncomputable def b36 : Nm × O := (mn 15, .c 238 0 0 [iI 4096, xsn, .x (.m (mn 17)), .x (.m (mn 18))])
noncomputable def b37 : Nm × O := (mn 17, .op 4)
noncomputable def b38 : Nm × O := (mn 18, .op 5)
noncomputable def b39 : Nm × O := (mn 20, .c 118 0 0 [bT, bF, pP 21 0, tK 17, pP 23 0, tK 18, pP 28 0, xsn])
noncomputable def b40 : Nm × O := (mn 21, .c 191 0 0 [iI 256, iW 1, rL 22 1, xsn, iI 1])
noncomputable def b41 : Nm × O := (mn 22, .c 344 21 1 [iI 2, tK 19, iB 0, iB 0, iB 0, iB 0, iB 0, iB 0, iB 0, iB 0, iB 0, iB 0, iB 0, iB 0, iB 0, iB 0, iB 0, iB 0, iW 1, iW 1, bT])
noncomputable def b42 : Nm × O := (mn 23, .c 203 0 0 [pP 24 0])
noncomputable def b43 : Nm × O := (mn 24, .c 329 0 0 [iI 256, iW 1, rL 25 1, xsn, iI 1])
noncomputable def b44 : Nm × O := (mn 25, .c 485 3 1 [pP 26 0, iW 1, bT])
noncomputable def b45 : Nm × O := (mn 26, .c 408 0 0 [iU 0, iU 4294967297, iW 1, bF, rL 27 1])
noncomputable def b46 : Nm × O := (mn 27, .c 148 36 1 [iW 0, iW 1, iU 0, iU 4294967297, iB 0, iB 0, iB 0, iB 0, iB 0, iB 0, iB 0, iB 0, iB 0, iB 0, iB 0, iB 1, iB 0, iB 0, iB 0, iB 1, iB 0, iB 0, iB 0, iB 0, iB 0, iB 0, iB 0, iB 0, iB 0, iB 0, iB 0, iB 0, iB 0, iB 0, iB 0, iB 0])
noncomputable def b47 : Nm × O := (mn 28, .c 206 0 0 [iI 16, xsn, iI 0, iI 0])
noncomputable def b48 : Nm × O := (mn 1, .c 42 0 0 [pP 2 0, tK 1, oS 91 61])
noncomputable def b49 : Nm × O := (mn 3, .c 103 0 0 [tK 11, tK 12, iI 2, iI 2, iI 1, oS 4 1, pP 6 0, .x (.m (mn 10)), tK 13, tK 14, tK 15, pP 15 0, pP 11 0, tK 16, tK 79, xpn, xsn, rL 88 1])
noncomputable def b50 : Nm × O := (mn 15, .c 238 0 0 [iI 4096, rL 80 1, .x (.m (mn 17)), .x (.m (mn 18))])
noncomputable def b51 : Nm × O := (mn 17, .op 14)
noncomputable def b52 : Nm × O := (mn 20, .c 118 0 0 [bT, bF, pP 21 0, tK 17, pP 23 0, tK 18, pP 28 0, rL 84 1])
noncomputable def b53 : Nm × O := (mn 63, .c 295 0 0 [iU 0, iI 0, iI 0, iI 0, xpn, iI 0, iU 0, tK 60, bF, iI 0, iI 0, iI 0, iI 0, iI 0, iU 0, iU 0, iB 0, iB 0, iB 0, iB 0, iB 0, iB 0, iB 0, iB 0, iB 0, iB 0, iB 0, iB 0, iB 0, iB 0, iB 0, iB 0, iI 0, iI 0, iI 0, xsn, tK 79])
noncomputable def b54 : Nm × O := (mn 77, .c 5 1 64 [iB 1, tK 62, iB 0, iB 0, iB 0, iB 0, iB 0, iB 0, iB 1, iB 0, iB 0, iB 0, iB 0, iB 0, iB 0, iB 0, tK 63, tK 64, tK 65, tK 66, tK 67, tK 68, tK 69, tK 70, iB 0, iB 0, iB 0, iB 0, iB 0, iB 0, iB 0, iB 0, iB 0, iB 0, iB 0, iB 1, iB 0, iB 0, iB 0, iB 1, iB 0, iB 0, iB 0, iB 0, iB 0, iB 0, iB 0, iB 0, tK 71, tK 72, tK 73, tK 74, tK 75, tK 76, tK 77, tK 78, iB 0, iB 0, iB 0, iB 0, iB 0, iB 0, iB 0, iB 0])
noncomputable def b55 : Nm × O := (mn 80, .c 161 1 1 [rL 77 64])
noncomputable def b56 : Nm × O := (mn 82, .c 290 0 0 [pP 63 0])
noncomputable def b57 : Nm × O := (mn 84, .c 289 1 1 [.l (mn 82) 0 1 1 false])
noncomputable def b58 : Nm × O := (mn 91, .op 11)
noncomputable def b59 : Nm × O := (mn 15, .c 238 0 0 [iI 4096, oS 16 7, .x (.m (mn 17)), .x (.m (mn 18))])
noncomputable def b60 : Nm × O := (mn 16, .op 3)
noncomputable def b61 : Nm × O := (mn 15, .c 238 0 0 [iI 4096, oS 80 80, .x (.m (mn 17)), .x (.m (mn 18))])
noncomputable def b62 : Nm × O := (mn 80, .op 13)
noncomputable def b63 : Nm × O := (mn 20, .c 118 0 0 [bT, bF, pP 21 0, tK 17, pP 23 0, tK 18, pP 28 0, oS 29 6])
noncomputable def b64 : Nm × O := (mn 29, .op 6)
noncomputable def b65 : Nm × O := (mn 20, .c 118 0 0 [bT, bF, pP 21 0, tK 17, pP 23 0, tK 18, pP 28 0, oS 84 90])
noncomputable def b66 : Nm × O := (mn 77, .c 5 1 64 [iB 1, tK 62, iB 0, iB 0, iB 0, iB 0, iB 0, iB 0, tK 82, tK 83, tK 84, tK 85, tK 86, tK 87, tK 88, tK 89, tK 63, tK 64, tK 65, tK 66, tK 67, tK 68, tK 69, tK 70, iB 0, iB 0, iB 0, iB 0, iB 0, iB 0, iB 0, iB 0, iB 0, iB 0, iB 0, iB 1, iB 0, iB 0, iB 0, iB 1, iB 0, iB 0, iB 0, iB 0, iB 0, iB 0, iB 0, iB 0, tK 71, tK 72, tK 73, tK 74, tK 75, tK 76, tK 77, tK 78, iB 0, iB 0, iB 0, iB 0, iB 0, iB 0, iB 0, iB 0])
noncomputable def b67 : Nm × O := (mn 84, .op 16)
noncomputable def b68 : Nm × O := (mn 20, .c 118 0 0 [bF, bF, pP 21 0, tK 17, pP 23 0, tK 18, pP 28 0, xsn])
noncomputable def b72 : Nm × O := (mn 19, .c 5 1 64 [iB 1, tK 91, tK 92, iB 0, iB 0, iB 0, iB 0, iB 0, tK 93, tK 94, tK 95, tK 96, tK 97, tK 98, tK 99, tK 100, tK 101, tK 102, tK 103, tK 104, tK 105, tK 106, tK 107, tK 108, iB 0, iB 0, iB 0, iB 0, iB 0, iB 0, iB 0, iB 0, iB 0, iB 0, iB 0, iB 1, iB 0, iB 0, iB 0, iB 1, iB 0, iB 0, iB 0, iB 0, iB 0, iB 0, iB 0, iB 0, tK 109, tK 110, tK 111, tK 112, tK 113, tK 114, tK 115, tK 116, iB 0, iB 0, iB 0, iB 0, iB 0, iB 0, iB 0, iB 0])
noncomputable def b73 : Nm × O := (mn 20, .c 118 0 0 [bF, bF, pP 21 0, pP 23 0, tK 17, tK 18, pP 27 0, tK 36])
noncomputable def b74 : Nm × O := (mn 27, .c 206 0 0 [iI 16, xsn, iI 0, iI 0])
noncomputable def b75 : Nm × O := (mn 15, .c 238 0 0 [iI 4096, oS 16 118, .x (.m (mn 17)), .x (.m (mn 18))])
noncomputable def b76 : Nm × O := (mn 16, .op 23)
noncomputable def b77 : Nm × O := (mn 18, .op 15)
noncomputable def b78 : Nm × O := (mn 27, .c 206 0 0 [iI 16, .l (mn 69) 0 4 4 false, iI 0, iI 1])
noncomputable def b79 : Nm × O := (mn 69, .c 134 0 0 [iI 1, tK 23, tK 24, tK 21, tK 22, iB 0, iB 0, iB 0, iB 0, iB 0, iB 0, iB 0, iB 0, iB 0, iB 0, iB 0, iB 1, iB 0, iB 0, iB 0, iB 1, iI 0, tK 25, iI 0, xsn, iI 0, iI 0, iI 0, iU 0, iU 0, iB 0, iB 0, iB 0, iB 0, iB 0, iB 0, iB 0, iB 0, iB 0, iB 0, iB 0, iB 0, iB 0, iB 0, iB 0, iB 0, iI 0, iI 0, iI 0, xsn, iI 0, iI 0, iI 0, iU 0, iU 0, iB 0, iB 0, iB 0, iB 0, iB 0, iB 0, iB 0, iB 0, iB 0, iB 0, iB 0, iB 0, iB 0, iB 0, iB 0, iB 0, iI 0, iI 0, iI 0, xsn, iI 0, iI 0, iI 0, iU 0, iU 0, iB 0, iB 0, iB 0, iB 0, iB 0, iB 0, iB 0, iB 0, iB 0, iB 0, iB 0, iB 0, iB 0, iB 0, iB 0, iB 0, iI 0, iI 0, iI 0, xsn])
noncomputable def b82 : Nm × O := (mn 27, .c 206 0 0 [iI 16, .l (mn 69) 0 12 12 false, iI 0, iI 5])
noncomputable def b90 : Nm × O := (mn 27, .c 206 0 0 [iI 16, oS 28 8, tK 26, tK 27])
noncomputable def b91 : Nm × O := (mn 28, .op 7)
noncomputable def b92 : Nm × O := (mn 27, .c 206 0 0 [iI 16, oS 28 8, tK 26, tK 137])
noncomputable def b93 : Nm × O := (mn 28, .op 17)
noncomputable def b94 : Nm × O := (mn 19, .c 5 1 40 [iB 2, tK 91, tK 92, iB 0, iB 0, iB 0, iB 0, iB 0, tK 93, tK 94, tK 95, tK 96, tK 97, tK 98, tK 99, tK 100, tK 101, tK 102, tK 103, tK 104, tK 105, tK 106, tK 107, tK 108, iB 0, iB 0, iB 0, iB 0, iB 0, iB 0, iB 0, iB 0, tK 109, tK 110, tK 111, tK 112, tK 113, tK 114, tK 115, tK 116])
noncomputable def b96 : Nm × O := (mn 29, .c 289 1 1 [.l (mn 30) 0 1 1 false])
noncomputable def b97 : Nm × O := (mn 30, .c 290 0 0 [pP 31 0])
noncomputable def b119 : Nm × O := (mn 20, .c 118 0 0 [bF, bF, pP 21 0, pP 23 0, tK 17, tK 18, pP 27 0, rL 137 1])
noncomputable def b120 : Nm × O := (mn 27, .c 206 0 0 [iI 16, oS 28 8, tK 146, tK 147])
noncomputable def b121 : Nm × O := (mn 127, .c 89 3 6 [iI 3, iI 0, iI 0, iI 2, iI 0, iI 0, iI 5, iI 0, iI 0, iI 4, iI 0, iI 0, iI 3, iI 0, iI 0, iI 11, iI 0, iI 0])
noncomputable def b122 : Nm × O := (mn 128, .c 531 0 0 [rL 127 6, tK 33, iI 0, xsn, bF, bF])
noncomputable def b123 : Nm × O := (mn 133, .c 295 0 0 [iU 4294967297, iI 0, iI 0, tK 33, pP 128 0, iI 0, iU 0, iU 0, bF, iI 0, iI 0, iI 1, tK 30, iI 0, tK 31, tK 32, iB 0, iB 0, iB 0, iB 0, iB 0, iB 0, iB 0, iB 0, iB 0, iB 0, iB 0, iB 1, iB 0, iB 0, iB 0, iB 1, iI 0, tK 33, iI 0, xsn, iU 0])
noncomputable def b124 : Nm × O := (mn 135, .c 290 0 0 [pP 133 0])
noncomputable def b125 : Nm × O := (mn 137, .c 289 1 1 [.l (mn 135) 0 1 1 false])
noncomputable def b126 : Nm × O := (mn 31, .c 295 0 0 [iU 4294967297, iI 0, iI 0, tK 33, pP 38 0, iI 0, iU 0, iU 0, bF, iI 0, iI 0, iI 1, tK 30, iI 0, tK 31, tK 32, iB 0, iB 0, iB 0, iB 0, iB 0, iB 0, iB 0, iB 0, iB 0, iB 0, iB 0, iB 1, iB 0, iB 0, iB 0, iB 1, iI 0, tK 33, iI 0, xsn, iU 0])
noncomputable def b127 : Nm × O := (mn 38, .c 531 0 0 [rL 39 6, tK 33, iI 0, xsn, bF, bF])
noncomputable def b128 : Nm × O := (mn 39, .c 89 3 6 [iI 3, iI 0, iI 0, iI 2, iI 0, iI 0, iI 5, iI 0, iI 0, iI 4, iI 0, iI 0, iI 3, iI 0, iI 0, iI 11, iI 0, iI 0])
noncomputable def b129 : Nm × O := (mn 1, .c 42 0 0 [pP 2 0, tK 1, oS 104 61])
noncomputable def b130 : Nm × O := (mn 3, .c 103 0 0 [tK 11, tK 12, iI 2, iI 2, iI 1, oS 4 1, pP 6 0, .x (.m (mn 10)), tK 13, tK 14, tK 15, pP 15 0, pP 11 0, tK 16, tK 4, xpn, xsn, rL 82 1])
noncomputable def b131 : Nm × O := (mn 9, .c 367 0 0 [iW 3, iU 0, tK 148, tK 35, xsn])
noncomputable def b132 : Nm × O := (mn 15, .c 238 0 0 [iI 4096, oS 91 80, .x (.m (mn 17)), .x (.m (mn 18))])
noncomputable def b133 : Nm × O := (mn 29, .c 289 1 1 [.l (mn 30) 0 0 1 false])
noncomputable def b134 : Nm × O := (mn 38, .c 531 0 0 [rL 39 6, tK 33, iI 5, rL 65 0, bF, bT])
noncomputable def b135 : Nm × O := (mn 65, .c 2 1 2 [tK 148, tK 33])
noncomputable def b136 : Nm × O := (mn 88, .c 5 1 40 [iB 2, tK 62, tK 149, iB 0, iB 0, iB 0, iB 0, iB 0, iB 1, iB 0, iB 0, iB 0, iB 0, iB 0, iB 0, iB 0, tK 150, tK 151, tK 152, tK 153, tK 154, tK 155, tK 156, tK 157, iB 0, iB 0, iB 0, iB 0, iB 0, iB 0, iB 0, iB 0, tK 158, tK 159, tK 160, tK 161, tK 162, tK 163, tK 164, tK 165])
noncomputable def b137 : Nm × O := (mn 91, .op 13)
noncomputable def b138 : Nm × O := (mn 104, .op 11)
noncomputable def b139 : Nm × O := (mn 88, .c 5 1 40 [iB 2, tK 62, tK 149, iB 0, iB 0, iB 0, iB 0, iB 0, tK 82, tK 83, tK 84, tK 85, tK 86, tK 87, tK 88, tK 89, tK 150, tK 151, tK 152, tK 153, tK 154, tK 155, tK 156, tK 157, iB 0, iB 0, iB 0, iB 0, iB 0, iB 0, iB 0, iB 0, tK 158, tK 159, tK 160, tK 161, tK 162, tK 163, tK 164, tK 165])
noncomputable def b140 : Nm × O := (mn 31, .c 295 0 0 [iU 4294967297, iI 0, iI 0, tK 28, pP 38 0, iI 0, iU 0, iU 0, bF, iI 0, iI 0, iI 0, iI 0, iI 0, iU 0, iU 0, iB 0, iB 0, iB 0, iB 0, iB 0, iB 0, iB 0, iB 0, iB 0, iB 0, iB 0, iB 0, iB 0, iB 0, iB 0, iB 0, iI 0, iI 0, iI 0, xsn, tK 29])
noncomputable def b141 : Nm × O := (mn 38, .c 531 0 0 [rL 39 6, tK 28, iI 0, xsn, bF, bF])
noncomputable def b142 : Nm × O := (mn 1, .c 42 0 0 [pP 2 0, tK 1, oS 98 167])
noncomputable def b143 : Nm × O := (mn 3, .c 103 0 0 [tK 11, tK 12, iI 2, iI 2, iI 1, oS 4 1, pP 6 0, .x (.m (mn 10)), tK 13, tK 14, tK 15, pP 15 0, pP 11 0, tK 16, tK 4, xpn, xsn, rL 86 2])
noncomputable def b144 : Nm × O := (mn 9, .c 367 0 0 [iW 3, iU 0, tK 166, tK 35, xsn])
noncomputable def b145 : Nm × O := (mn 38, .c 531 0 0 [rL 39 6, tK 28, iI 5, rL 65 0, bF, bT])
noncomputable def b146 : Nm × O := (mn 65, .c 2 1 2 [tK 166, tK 28])
noncomputable def b147 : Nm × O := (mn 98, .op 11)
noncomputable def f0 : TbE := .bin .lss (tK 2) (iI 0) (bF)
noncomputable def f1 : TbE := .bin .geq (tK 2) (tK 1) (bF)
noncomputable def f2 : TbE := .ix 2 1
noncomputable def f3 : TbE := .ld 2 2 1 0 [pP 20 0]
noncomputable def f4 : TbE := .bin .add (tK 4) (iU 1) (tK 60)
noncomputable def f5 : TbE := .ap 1 5 [iI 2, tK 60, iI 0, iI 0, iI 0, iI 0] 1 50 6 11 61
noncomputable def f6 : TbE := .bin .and (tK 19) (iU 1152921504606846975) (iU 4294967297)
noncomputable def f7 : TbE := .lk 4 (.a [tK 2, iI 0]) none
noncomputable def f8 : TbE := .enc [iI 1, tK 2, iI 0, iU 1, tK 60, iB 0, iB 0, iB 0, iB 0, iB 0, iB 0, iB 0, iB 0, iB 0, iB 0, iB 0, iB 1, iB 0, iB 0, iB 0, iB 1, iI 0, tK 3, iI 0, xsn] [iB 1, tK 62, iB 0, iB 0, iB 0, iB 0, iB 0, iB 0, iB 1, iB 0, iB 0, iB 0, iB 0, iB 0, iB 0, iB 0, tK 63, tK 64, tK 65, tK 66, tK 67, tK 68, tK 69, tK 70, iB 0, iB 0, iB 0, iB 0, iB 0, iB 0, iB 0, iB 0, iB 0, iB 0, iB 0, iB 1, iB 0, iB 0, iB 0, iB 1, iB 0, iB 0, iB 0, iB 0, iB 0, iB 0, iB 0, iB 0, tK 71, tK 72, tK 73, tK 74, tK 75, tK 76, tK 77, tK 78, iB 0, iB 0, iB 0, iB 0, iB 0, iB 0, iB 0, iB 0]
noncomputable def f9 : TbE := .up 4 (.a [tK 2, iI 0]) (.s (iU 1)) 14
noncomputable def f10 : TbE := .bin .add (tK 60) (iU 1) (tK 79)
noncomputable def f11 : TbE := .ap 1 5 [iI 2, tK 79, iI 0, iI 0, iI 0, iI 0] 1 50 6 11 61
noncomputable def f12 : TbE := .bin .geq (tK 7) (iI 4096) (bF)
noncomputable def f13 : TbE := .ap 3 7 [rL 77 64] 1 161 1 13 80
noncomputable def f14 : TbE := .bin .lss (tK 6) (iI 4) (bT)
noncomputable def f15 : TbE := .lk 4 (.a [tK 2, iI 0]) (some (.s (tK 20)))
noncomputable def f16 : TbE := .bin .add (tK 20) (iU 1) (tK 81)
noncomputable def f17 : TbE := .enc [iI 1, tK 2, iI 0, tK 81, tK 60, iB 0, iB 0, iB 0, iB 0, iB 0, iB 0, iB 0, iB 0, iB 0, iB 0, iB 0, iB 1, iB 0, iB 0, iB 0, iB 1, iI 0, tK 3, iI 0, xsn] [iB 1, tK 62, iB 0, iB 0, iB 0, iB 0, iB 0, iB 0, tK 82, tK 83, tK 84, tK 85, tK 86, tK 87, tK 88, tK 89, tK 63, tK 64, tK 65, tK 66, tK 67, tK 68, tK 69, tK 70, iB 0, iB 0, iB 0, iB 0, iB 0, iB 0, iB 0, iB 0, iB 0, iB 0, iB 0, iB 1, iB 0, iB 0, iB 0, iB 1, iB 0, iB 0, iB 0, iB 0, iB 0, iB 0, iB 0, iB 0, tK 71, tK 72, tK 73, tK 74, tK 75, tK 76, tK 77, tK 78, iB 0, iB 0, iB 0, iB 0, iB 0, iB 0, iB 0, iB 0]
noncomputable def f18 : TbE := .up 4 (.a [tK 2, iI 0]) (.s (tK 81)) 14
noncomputable def f19 : TbE := .ap 6 6 [.l (mn 82) 0 1 1 false] 1 289 1 16 90
noncomputable def f20 : TbE := .bin .lss (tK 6) (iI 4) (bF)
noncomputable def f21 : TbE := .bin .eql (tK 6) (iI 0) (bT)
noncomputable def f22 : TbE := .bin .eql (tK 6) (iI 0) (bF)
noncomputable def f23 : TbE := .bin .eql (tK 7) (iI 0) (bT)
noncomputable def f24 : TbE := .bin .eql (tK 7) (iI 0) (bF)
noncomputable def f25 : TbE := .bin .rem (tK 3) (tK 7) (tK 37)
noncomputable def f26 : TbE := .bin .lss (tK 37) (iI 0) (bF)
noncomputable def f27 : TbE := .ix 37 7
noncomputable def f28 : TbE := .ld 3 37 1 0 [rL 19 64]
noncomputable def f29 : TbE := .enc [iI 1, tK 23, tK 24, tK 21, tK 22, iB 0, iB 0, iB 0, iB 0, iB 0, iB 0, iB 0, iB 0, iB 0, iB 0, iB 0, iB 1, iB 0, iB 0, iB 0, iB 1, iI 0, tK 25, iI 0, xsn] [iB 1, tK 91, tK 92, iB 0, iB 0, iB 0, iB 0, iB 0, tK 93, tK 94, tK 95, tK 96, tK 97, tK 98, tK 99, tK 100, tK 101, tK 102, tK 103, tK 104, tK 105, tK 106, tK 107, tK 108, iB 0, iB 0, iB 0, iB 0, iB 0, iB 0, iB 0, iB 0, iB 0, iB 0, iB 0, iB 1, iB 0, iB 0, iB 0, iB 1, iB 0, iB 0, iB 0, iB 0, iB 0, iB 0, iB 0, iB 0, tK 109, tK 110, tK 111, tK 112, tK 113, tK 114, tK 115, tK 116, iB 0, iB 0, iB 0, iB 0, iB 0, iB 0, iB 0, iB 0]
noncomputable def f30 : TbE := .bin .add (tK 37) (iI 1) (tK 117)
noncomputable def f31 : TbE := .del 3 7 37 117 161 1 23 118
noncomputable def f32 : TbE := .lk 5 (.a [tK 23, tK 24, tK 21]) none
noncomputable def f33 : TbE := .up 5 (.a [tK 23, tK 24, tK 21]) (.a []) 15
noncomputable def f34 : TbE := .ix 24 1
noncomputable def f35 : TbE := .ld 2 24 1 0 [pP 20 0]
noncomputable def f36 : TbE := .bin .eql (tK 27) (iI 16) (bF)
noncomputable def f37 : TbE := .bin .eql (tK 27) (tK 8) (bF)
noncomputable def f38 : TbE := .bin .add (tK 26) (tK 27) (tK 135)
noncomputable def f39 : TbE := .bin .rem (tK 135) (tK 8) (tK 136)
noncomputable def f40 : TbE := .ix 136 8
noncomputable def f41 : TbE := .st 7 136 25 0 [iI 1, tK 23, tK 24, tK 21, tK 22, iB 0, iB 0, iB 0, iB 0, iB 0, iB 0, iB 0, iB 0, iB 0, iB 0, iB 0, iB 1, iB 0, iB 0, iB 0, iB 1, iI 0, tK 25, iI 0, xsn] 17
noncomputable def f42 : TbE := .bin .add (tK 27) (iI 1) (tK 137)
noncomputable def f43 : TbE := .bin .rem (tK 3) (tK 7) (tK 38)
noncomputable def f44 : TbE := .bin .lss (tK 38) (iI 0) (bT)
noncomputable def f45 : TbE := .bin .add (tK 38) (tK 7) (tK 37)
noncomputable def f46 : TbE := .ld 3 37 1 0 [rL 19 40]
noncomputable def f47 : TbE := .enc [iI 2, tK 23, tK 24, tK 21, tK 22, iB 0, iB 0, iB 0, iB 0, iB 0, iB 0, iB 0, iB 0, iB 0, iB 0, iB 0, iB 0, iB 0, iB 0, iB 0, iB 0, iI 0, tK 25, iI 0, xsn] [iB 2, tK 91, tK 92, iB 0, iB 0, iB 0, iB 0, iB 0, tK 93, tK 94, tK 95, tK 96, tK 97, tK 98, tK 99, tK 100, tK 101, tK 102, tK 103, tK 104, tK 105, tK 106, tK 107, tK 108, iB 0, iB 0, iB 0, iB 0, iB 0, iB 0, iB 0, iB 0, tK 109, tK 110, tK 111, tK 112, tK 113, tK 114, tK 115, tK 116]
noncomputable def f59 : TbE := .bin .gtr (tK 27) (iI 0) (bF)
noncomputable def f60 : TbE := .bin .gtr (tK 27) (iI 0) (bT)
noncomputable def f61 : TbE := .bin .rem (tK 3) (iI 1) (iI 0)
noncomputable def f62 : TbE := .bin .geq (iI 0) (tK 27) (bF)
noncomputable def f63 : TbE := .bin .add (tK 26) (iI 0) (tK 143)
noncomputable def f64 : TbE := .bin .rem (tK 143) (tK 8) (tK 144)
noncomputable def f65 : TbE := .ix 144 8
noncomputable def f66 : TbE := .ld 7 144 25 0 [iI 1, tK 30, iI 0, tK 31, tK 32, iB 0, iB 0, iB 0, iB 0, iB 0, iB 0, iB 0, iB 0, iB 0, iB 0, iB 0, iB 1, iB 0, iB 0, iB 0, iB 1, iI 0, tK 33, iI 0, xsn]
noncomputable def f67 : TbE := .ix 26 8
noncomputable def f68 : TbE := .st 7 26 25 0 [iI 0, iI 0, iI 0, iU 0, iU 0, iB 0, iB 0, iB 0, iB 0, iB 0, iB 0, iB 0, iB 0, iB 0, iB 0, iB 0, iB 0, iB 0, iB 0, iB 0, iB 0, iI 0, iI 0, iI 0, xsn] 17
noncomputable def f69 : TbE := .bin .add (tK 26) (iI 1) (tK 145)
noncomputable def f70 : TbE := .bin .rem (tK 145) (tK 8) (tK 146)
noncomputable def f71 : TbE := .bin .sub (tK 27) (iI 1) (tK 147)
noncomputable def f72 : TbE := .bin .add (tK 10) (tK 33) (tK 148)
noncomputable def f73 : TbE := .lk 4 (.a [tK 2, tK 30]) none
noncomputable def f74 : TbE := .enc [iI 2, tK 2, tK 30, iU 1, tK 32, iB 0, iB 0, iB 0, iB 0, iB 0, iB 0, iB 0, iB 0, iB 0, iB 0, iB 0, iB 0, iB 0, iB 0, iB 0, iB 0, iI 0, tK 148, iI 0, xsn] [iB 2, tK 62, tK 149, iB 0, iB 0, iB 0, iB 0, iB 0, iB 1, iB 0, iB 0, iB 0, iB 0, iB 0, iB 0, iB 0, tK 150, tK 151, tK 152, tK 153, tK 154, tK 155, tK 156, tK 157, iB 0, iB 0, iB 0, iB 0, iB 0, iB 0, iB 0, iB 0, tK 158, tK 159, tK 160, tK 161, tK 162, tK 163, tK 164, tK 165]
noncomputable def f75 : TbE := .ap 3 7 [rL 88 40] 1 161 1 13 80
noncomputable def f76 : TbE := .up 4 (.a [tK 2, tK 30]) (.s (iU 1)) 14
noncomputable def f77 : TbE := .ap 1 5 [iI 4, iU 4294967297, iI 0, tK 148, tK 33, iI 0] 1 50 6 11 61
noncomputable def f78 : TbE := .lk 4 (.a [tK 2, tK 30]) (some (.s (tK 20)))
noncomputable def f79 : TbE := .enc [iI 2, tK 2, tK 30, tK 81, tK 32, iB 0, iB 0, iB 0, iB 0, iB 0, iB 0, iB 0, iB 0, iB 0, iB 0, iB 0, iB 0, iB 0, iB 0, iB 0, iB 0, iI 0, tK 148, iI 0, xsn] [iB 2, tK 62, tK 149, iB 0, iB 0, iB 0, iB 0, iB 0, tK 82, tK 83, tK 84, tK 85, tK 86, tK 87, tK 88, tK 89, tK 150, tK 151, tK 152, tK 153, tK 154, tK 155, tK 156, tK 157, iB 0, iB 0, iB 0, iB 0, iB 0, iB 0, iB 0, iB 0, tK 158, tK 159, tK 160, tK 161, tK 162, tK 163, tK 164, tK 165]
noncomputable def f80 : TbE := .up 4 (.a [tK 2, tK 30]) (.s (tK 81)) 14
noncomputable def f81 : TbE := .bin .add (tK 10) (tK 28) (tK 166)
noncomputable def f82 : TbE := .bin .neq (tK 29) (iU 0) (bT)
noncomputable def f83 : TbE := .ap 1 5 [iI 4, iU 4294967297, iI 0, tK 166, tK 28, iI 0, iI 3, tK 29, iI 0, tK 166, iI 0, iI 0] 2 50 6 11 167
noncomputable def e0 : List (Nm × O) := [b0, b1, b2, b3, b4, b5, b6, b7, b8, b9, b10, b11, b12, b13, b14, b15, b16, b17, b18, b19, b20]
noncomputable def e1 : List (Nm × O) := [b21, b1, b22, b3, b5, b6, b7, b23, b9, b10, b11, b24, b13, b25, b15, b16, b17, b18, b19, b20, b26, b27, b28, b29, b30, b31]
noncomputable def e2 : List (Nm × O) := [b0, b1, b2, b3, b4, b5, b6, b7, b8, b9, b10, b11, b12, b13, b32, b15, b16, b17, b18, b19, b20, b33]
noncomputable def e3 : List (Nm × O) := [b0, b1, b2, b3, b4, b34, b15, b16, b17, b18, b19, b20]
noncomputable def e4 : List (Nm × O) := [b0, b1, b35, b3, b4, b34, b15, b16, b17, b18, b19, b20]
noncomputable def e5 : List (Nm × O) := [b0, b1, b2, b3, b4, b36, b37, b38, b39, b40, b41, b42, b43, b44, b45, b46, b47]
noncomputable def e6 : List (Nm × O) := [b48, b1, b49, b3, b50, b51, b38, b52, b40, b41, b42, b43, b44, b45, b46, b47, b53, b54, b55, b56, b57, b58]
noncomputable def e7 : List (Nm × O) := [b0, b1, b2, b3, b4, b59, b60, b37, b38, b39, b40, b41, b42, b43, b44, b45, b46, b47]
noncomputable def e8 : List (Nm × O) := [b48, b1, b49, b3, b61, b51, b38, b52, b40, b41, b42, b43, b44, b45, b46, b47, b53, b54, b62, b56, b57, b58]
noncomputable def e9 : List (Nm × O) := [b0, b1, b2, b3, b4, b36, b37, b38, b63, b40, b41, b42, b43, b44, b45, b46, b47, b64]
noncomputable def e10 : List (Nm × O) := [b48, b1, b49, b3, b50, b51, b38, b65, b40, b41, b42, b43, b44, b45, b46, b47, b53, b66, b55, b56, b67, b58]
noncomputable def e12 : List (Nm × O) := [b48, b1, b49, b3, b61, b51, b38, b65, b40, b41, b42, b43, b44, b45, b46, b47, b53, b66, b62, b56, b67, b58]
noncomputable def e13 : List (Nm × O) := [b0, b1, b2, b3, b4, b63, b40, b41, b42, b43, b44, b45, b46, b47, b64]
noncomputable def e15 : List (Nm × O) := [b0, b1, b2, b3, b4, b36, b37, b38, b68, b40, b41, b42, b43, b44, b45, b46, b47]
noncomputable def e17 : List (Nm × O) := [b0, b1, b2, b3, b4, b59, b60, b37, b38, b68, b40, b41, b42, b43, b44, b45, b46, b47]
noncomputable def e25 : List (Nm × O) := [b0, b1, b2, b3, b4, b36, b37, b38]
noncomputable def e26 : List (Nm × O) := [b0, b1, b35, b3, b4, b36, b37, b38]
noncomputable def e27 : List (Nm × O) := [b0, b1, b2, b3, b4, b59, b60, b37, b38]
noncomputable def e28 : List (Nm × O) := [b0, b1, b35, b3, b4, b59, b60, b37, b38]
noncomputable def e29 : List (Nm × O) := [b0, b1, b2, b3, b4, b59, b60, b37, b38, b72, b73, b15, b16, b17, b18, b19, b20, b74]
noncomputable def e61 : List (Nm × O) := [b0, b1, b2, b3, b4, b14, b15, b16, b17, b18, b19, b20, b90, b91]
noncomputable def e62 : List (Nm × O) := [b0, b1, b35, b3, b4, b14, b15, b16, b17, b18, b19, b20, b90, b91]
noncomputable def e63 : List (Nm × O) := [b0, b1, b2, b3, b4, b14, b15, b16, b17, b18, b19, b20, b74]
noncomputable def e64 : List (Nm × O) := [b0, b1, b35, b3, b4, b14, b15, b16, b17, b18, b19, b20, b74]
noncomputable def e65 : List (Nm × O) := [b0, b1, b2, b3, b4, b5, b6, b7, b8, b9, b10, b11, b12, b13, b14, b15, b16, b17, b18, b19, b20, b90, b91]
noncomputable def e66 : List (Nm × O) := [b0, b1, b35, b3, b4, b5, b6, b7, b23, b9, b10, b11, b24, b13, b119, b15, b16, b17, b18, b19, b20, b120, b93, b121, b122, b123, b124, b125]
noncomputable def e67 : List (Nm × O) := [b0, b1, b2, b3, b4, b32, b15, b16, b17, b18, b19, b20, b90, b91, b33]
noncomputable def e68 : List (Nm × O) := [b0, b1, b35, b3, b4, b32, b15, b16, b17, b18, b19, b20, b90, b91, b33]
noncomputable def e69 : List (Nm × O) := [b0, b1, b2, b3, b4, b32, b15, b16, b17, b18, b19, b20, b74, b33]
noncomputable def e70 : List (Nm × O) := [b0, b1, b35, b3, b4, b32, b15, b16, b17, b18, b19, b20, b74, b33]
noncomputable def e71 : List (Nm × O) := [b0, b1, b2, b3, b4, b5, b6, b7, b8, b9, b10, b11, b12, b13, b32, b15, b16, b17, b18, b19, b20, b90, b91, b33]
noncomputable def e72 : List (Nm × O) := [b0, b1, b2, b3, b4, b5, b6, b7, b23, b9, b10, b11, b24, b13, b59, b60, b37, b38, b34, b15, b16, b17, b18, b19, b20, b90, b91, b96, b97, b126, b127, b128]
noncomputable def e73 : List (Nm × O) := [b129, b1, b130, b3, b5, b6, b7, b131, b9, b10, b11, b12, b13, b132, b51, b38, b32, b15, b16, b17, b18, b19, b20, b90, b91, b133, b97, b126, b134, b128, b135, b136, b137, b138]
noncomputable def e74 : List (Nm × O) := [b129, b1, b130, b3, b5, b6, b7, b131, b9, b10, b11, b12, b13, b132, b51, b38, b32, b15, b16, b17, b18, b19, b20, b90, b91, b133, b97, b126, b134, b128, b135, b139, b137, b138]
noncomputable def e75 : List (Nm × O) := [b0, b1, b2, b3, b4, b5, b6, b7, b23, b9, b10, b11, b24, b13, b34, b15, b16, b17, b18, b19, b20, b90, b91, b96, b97, b140, b141, b128]
noncomputable def e76 : List (Nm × O) := [b142, b1, b143, b3, b5, b6, b7, b144, b9, b10, b11, b12, b13, b32, b15, b16, b17, b18, b19, b20, b90, b91, b133, b97, b140, b145, b128, b146, b147]
noncomputable def e77 : List (Nm × O) := [b0, b1, b2, b3, b4, b5, b6, b7, b23, b9, b10, b11, b24, b13, b34, b15, b16, b17, b18, b19, b20, b74, b96, b97, b140, b141, b128]
noncomputable def e78 : List (Nm × O) := [b142, b1, b143, b3, b5, b6, b7, b144, b9, b10, b11, b12, b13, b32, b15, b16, b17, b18, b19, b20, b74, b133, b97, b140, b145, b128, b146, b147]
noncomputable def t_c0n : List TbE := [f0, f1, f2, f3, f4, f5]
noncomputable def t_c0r : List TbE := [f0, f1, f2, f3, f4, f5]
noncomputable def t_c0b : List TbE := [f0, f1, f2, f3]
noncomputable def t_den : List TbE := []
noncomputable def t_der : List TbE := [f23]
noncomputable def t_s0nn : List TbE := [f0, f1, f2, f3, f59]
noncomputable def t_s0mn : List TbE := [f0, f1, f2, f3]
noncomputable def t_s0dn : List TbE := [f0, f1, f2, f3, f60, f61, f62, f63, f64, f65, f66, f67, f68, f69, f70, f71]
noncomputable def t_s0nr : List TbE := [f0, f1, f2, f3, f59]
noncomputable def t_s0mr : List TbE := [f0, f1, f2, f3]
noncomputable def t_s0dr : List TbE := [f0, f1, f2, f3, f60, f61, f62, f63, f64, f65, f66, f67, f68, f69, f70, f71]
noncomputable def t_s0ba : List TbE := [f0, f1, f2, f3, f60, f61, f72, f73, f74, f12, f75, f76, f77]
noncomputable def t_s0bp : List TbE := [f0, f1, f2, f3, f60, f61, f72, f78, f16, f79, f12, f75, f80, f77]
noncomputable def t_s0co : List TbE := [f0, f1, f2, f3, f60, f61, f81, f82, f83]
noncomputable def t_s0cn : List TbE := [f0, f1, f2, f3, f61, f81, f82, f83]
noncomputable def t_s0za : List TbE := [f0, f1, f2, f3, f59, f61, f72, f73, f74, f12, f75, f76, f77]
noncomputable def t_s0zp : List TbE := [f0, f1, f2, f3, f59, f61, f72, f78, f16, f79, f12, f75, f80, f77]
noncomputable def t_s0cz : List TbE := [f0, f1, f2, f3, f59, f61, f81, f82, f83]
end Go.Proofs.YtpcdcemcjbeajaaGreatDoor
end
section
set_option linter.unusedVariables false
set_option linter.unusedSimpArgs false
set_option maxRecDepth 100000
namespace Go.Proofs.YtpcdcemcjbeajaaGreatDoor
open Go Go.RowKit
structure V1 where
  v : Value
  h : v.cells = #[v] ∧ v.oneCell' = true
def vN (k : IntKind) (n : Nat) : V1 := ⟨.int k (n : Int), rfl, rfl⟩
def vI (k : IntKind) (n : Int) : V1 := ⟨.int k n, rfl, rfl⟩
def vS (A : Option Addr) (n c : Nat) : V1 := ⟨.slice A n c, rfl, rfl⟩
def vP (a : Nat) : V1 := ⟨.pointer (some ⟨a, 0, none⟩), rfl, rfl⟩
def v0 : V1 := ⟨.bool false, rfl, rfl⟩
instance : Inhabited V1 := ⟨v0⟩
structure Bs where
  (H hm lL lT lR lQ kfr kto rf rc bfr kx calls lh seq kseq kcall fcl bseq bcall wt0 cl0 qfr0 qseq0 qcall0 wt1 cl1 qfr1 qseq1 qcall1 wt2 cl2 qfr2 qseq2 qcall2 wt3 cl3 qfr3 qseq3 qcall3 : Nat)
  (n v kn fn bn kr rs0 rs1 rs2 rs3 qn0 qn1 qn2 qn3 : Int)
  (told w0 w1 w8 w9 w10 w13 hs hl sc ol thr mny rd0 rd1 rd2 rd3 pl0 pl1 pl2 pl3 pl4 pl5 pl6 pl7 pl8 : V1)
  rows : Nat → List V1
  ob : Nat → O
def valA (b : Bs) (k : Nat) : V1 := cond (Nat.blt k 84) (cond (Nat.blt k 42) (cond (Nat.blt k 21) (cond (Nat.blt k 10) (cond (Nat.blt k 5) (cond (Nat.blt k 2) (cond (Nat.blt k 1) ((v0)) ((vN .i64 b.H))) (cond (Nat.blt k 3) ((vN .i64 b.hm)) (cond (Nat.blt k 4) ((vI .i64 b.n)) ((vN .u64 b.calls))))) (cond (Nat.blt k 7) (cond (Nat.blt k 6) ((vN .i64 b.lL)) ((vN .i64 b.lT))) (cond (Nat.blt k 8) ((vN .i64 b.lR)) (cond (Nat.blt k 9) ((vN .i64 b.lQ)) ((b.told)))))) (cond (Nat.blt k 15) (cond (Nat.blt k 12) (cond (Nat.blt k 11) ((vI .i64 b.v)) ((b.w0))) (cond (Nat.blt k 13) ((b.w1)) (cond (Nat.blt k 14) ((b.w8)) ((b.w9))))) (cond (Nat.blt k 18) (cond (Nat.blt k 16) ((b.w10)) (cond (Nat.blt k 17) ((b.w13)) ((b.hs)))) (cond (Nat.blt k 19) ((b.hl)) (cond (Nat.blt k 20) ((vN .u64 b.lh)) ((vN .u64 b.seq))))))) (cond (Nat.blt k 31) (cond (Nat.blt k 26) (cond (Nat.blt k 23) (cond (Nat.blt k 22) ((vN .u64 b.kseq)) ((vN .u64 b.kcall))) (cond (Nat.blt k 24) ((vN .i64 b.kfr)) (cond (Nat.blt k 25) ((vN .i64 b.kto)) ((vI .i64 b.kn))))) (cond (Nat.blt k 28) (cond (Nat.blt k 27) ((vN .i64 b.rf)) ((vN .i64 b.rc))) (cond (Nat.blt k 29) ((vI .i64 b.fn)) (cond (Nat.blt k 30) ((vN .u64 b.fcl)) ((vN .i64 b.bfr)))))) (cond (Nat.blt k 36) (cond (Nat.blt k 33) (cond (Nat.blt k 32) ((vN .u64 b.bseq)) ((vN .u64 b.bcall))) (cond (Nat.blt k 34) ((vI .i64 b.bn)) (cond (Nat.blt k 35) ((b.sc)) ((b.ol))))) (cond (Nat.blt k 39) (cond (Nat.blt k 37) ((b.thr)) (cond (Nat.blt k 38) ((vN .i64 b.kx)) ((vI .i64 b.kr)))) (cond (Nat.blt k 40) ((vN .u64 b.wt0)) (cond (Nat.blt k 41) ((vN .u64 b.wt1)) ((vN .u64 b.wt2)))))))) (cond (Nat.blt k 63) (cond (Nat.blt k 52) (cond (Nat.blt k 47) (cond (Nat.blt k 44) (cond (Nat.blt k 43) ((vN .u64 b.wt3)) ((vN .u64 b.cl0))) (cond (Nat.blt k 45) ((vN .u64 b.cl1)) (cond (Nat.blt k 46) ((vN .u64 b.cl2)) ((vN .u64 b.cl3))))) (cond (Nat.blt k 49) (cond (Nat.blt k 48) ((vI .i64 b.rs0)) ((vI .i64 b.rs1))) (cond (Nat.blt k 50) ((vI .i64 b.rs2)) (cond (Nat.blt k 51) ((vI .i64 b.rs3)) ((b.pl0)))))) (cond (Nat.blt k 57) (cond (Nat.blt k 54) (cond (Nat.blt k 53) ((b.pl1)) ((b.pl2))) (cond (Nat.blt k 55) ((b.pl3)) (cond (Nat.blt k 56) ((b.pl4)) ((b.pl5))))) (cond (Nat.blt k 60) (cond (Nat.blt k 58) ((b.pl6)) (cond (Nat.blt k 59) ((b.pl7)) ((b.pl8)))) (cond (Nat.blt k 61) ((vN .u64 (b.calls + 1))) (cond (Nat.blt k 62) ((vN .i64 (b.lL + 1))) ((vN .u8 b.hm))))))) (cond (Nat.blt k 73) (cond (Nat.blt k 68) (cond (Nat.blt k 65) (cond (Nat.blt k 64) ((vN .u8 ((b.calls + 1) / 256 ^ 0 % 256))) ((vN .u8 ((b.calls + 1) / 256 ^ 1 % 256)))) (cond (Nat.blt k 66) ((vN .u8 ((b.calls + 1) / 256 ^ 2 % 256))) (cond (Nat.blt k 67) ((vN .u8 ((b.calls + 1) / 256 ^ 3 % 256))) ((vN .u8 ((b.calls + 1) / 256 ^ 4 % 256)))))) (cond (Nat.blt k 70) (cond (Nat.blt k 69) ((vN .u8 ((b.calls + 1) / 256 ^ 5 % 256))) ((vN .u8 ((b.calls + 1) / 256 ^ 6 % 256)))) (cond (Nat.blt k 71) ((vN .u8 ((b.calls + 1) / 256 ^ 7 % 256))) (cond (Nat.blt k 72) ((vN .u8 ((b.n % 18446744073709551616).toNat / 256 ^ 0 % 256))) ((vN .u8 ((b.n % 18446744073709551616).toNat / 256 ^ 1 % 256))))))) (cond (Nat.blt k 78) (cond (Nat.blt k 75) (cond (Nat.blt k 74) ((vN .u8 ((b.n % 18446744073709551616).toNat / 256 ^ 2 % 256))) ((vN .u8 ((b.n % 18446744073709551616).toNat / 256 ^ 3 % 256)))) (cond (Nat.blt k 76) ((vN .u8 ((b.n % 18446744073709551616).toNat / 256 ^ 4 % 256))) (cond (Nat.blt k 77) ((vN .u8 ((b.n % 18446744073709551616).toNat / 256 ^ 5 % 256))) ((vN .u8 ((b.n % 18446744073709551616).toNat / 256 ^ 6 % 256)))))) (cond (Nat.blt k 81) (cond (Nat.blt k 79) ((vN .u8 ((b.n % 18446744073709551616).toNat / 256 ^ 7 % 256))) (cond (Nat.blt k 80) ((vN .u64 ((b.calls + 1) + 1))) ((vN .i64 (b.lR + 1))))) (cond (Nat.blt k 82) ((vN .u64 (b.seq + 1))) (cond (Nat.blt k 83) ((vN .u8 ((b.seq + 1) / 256 ^ 0 % 256))) ((vN .u8 ((b.seq + 1) / 256 ^ 1 % 256)))))))))) (cond (Nat.blt k 126) (cond (Nat.blt k 105) (cond (Nat.blt k 94) (cond (Nat.blt k 89) (cond (Nat.blt k 86) (cond (Nat.blt k 85) ((vN .u8 ((b.seq + 1) / 256 ^ 2 % 256))) ((vN .u8 ((b.seq + 1) / 256 ^ 3 % 256)))) (cond (Nat.blt k 87) ((vN .u8 ((b.seq + 1) / 256 ^ 4 % 256))) (cond (Nat.blt k 88) ((vN .u8 ((b.seq + 1) / 256 ^ 5 % 256))) ((vN .u8 ((b.seq + 1) / 256 ^ 6 % 256)))))) (cond (Nat.blt k 91) (cond (Nat.blt k 90) ((vN .u8 ((b.seq + 1) / 256 ^ 7 % 256))) ((vN .i64 (b.lT + 1)))) (cond (Nat.blt k 92) ((vN .u8 b.kfr)) (cond (Nat.blt k 93) ((vN .u8 b.kto)) ((vN .u8 (b.kseq / 256 ^ 0 % 256))))))) (cond (Nat.blt k 99) (cond (Nat.blt k 96) (cond (Nat.blt k 95) ((vN .u8 (b.kseq / 256 ^ 1 % 256))) ((vN .u8 (b.kseq / 256 ^ 2 % 256)))) (cond (Nat.blt k 97) ((vN .u8 (b.kseq / 256 ^ 3 % 256))) (cond (Nat.blt k 98) ((vN .u8 (b.kseq / 256 ^ 4 % 256))) ((vN .u8 (b.kseq / 256 ^ 5 % 256)))))) (cond (Nat.blt k 102) (cond (Nat.blt k 100) ((vN .u8 (b.kseq / 256 ^ 6 % 256))) (cond (Nat.blt k 101) ((vN .u8 (b.kseq / 256 ^ 7 % 256))) ((vN .u8 (b.kcall / 256 ^ 0 % 256))))) (cond (Nat.blt k 103) ((vN .u8 (b.kcall / 256 ^ 1 % 256))) (cond (Nat.blt k 104) ((vN .u8 (b.kcall / 256 ^ 2 % 256))) ((vN .u8 (b.kcall / 256 ^ 3 % 256)))))))) (cond (Nat.blt k 115) (cond (Nat.blt k 110) (cond (Nat.blt k 107) (cond (Nat.blt k 106) ((vN .u8 (b.kcall / 256 ^ 4 % 256))) ((vN .u8 (b.kcall / 256 ^ 5 % 256)))) (cond (Nat.blt k 108) ((vN .u8 (b.kcall / 256 ^ 6 % 256))) (cond (Nat.blt k 109) ((vN .u8 (b.kcall / 256 ^ 7 % 256))) ((vN .u8 ((b.kn % 18446744073709551616).toNat / 256 ^ 0 % 256)))))) (cond (Nat.blt k 112) (cond (Nat.blt k 111) ((vN .u8 ((b.kn % 18446744073709551616).toNat / 256 ^ 1 % 256))) ((vN .u8 ((b.kn % 18446744073709551616).toNat / 256 ^ 2 % 256)))) (cond (Nat.blt k 113) ((vN .u8 ((b.kn % 18446744073709551616).toNat / 256 ^ 3 % 256))) (cond (Nat.blt k 114) ((vN .u8 ((b.kn % 18446744073709551616).toNat / 256 ^ 4 % 256))) ((vN .u8 ((b.kn % 18446744073709551616).toNat / 256 ^ 5 % 256))))))) (cond (Nat.blt k 120) (cond (Nat.blt k 117) (cond (Nat.blt k 116) ((vN .u8 ((b.kn % 18446744073709551616).toNat / 256 ^ 6 % 256))) ((vN .u8 ((b.kn % 18446744073709551616).toNat / 256 ^ 7 % 256)))) (cond (Nat.blt k 118) ((vN .i64 (b.kx + 1))) (cond (Nat.blt k 119) ((vN .i64 (b.lR - 1))) ((vN .i64 b.qfr0))))) (cond (Nat.blt k 123) (cond (Nat.blt k 121) ((vN .u64 b.qseq0)) (cond (Nat.blt k 122) ((vN .u64 b.qcall0)) ((vI .i64 b.qn0)))) (cond (Nat.blt k 124) ((vN .i64 b.qfr1)) (cond (Nat.blt k 125) ((vN .u64 b.qseq1)) ((vN .u64 b.qcall1)))))))) (cond (Nat.blt k 147) (cond (Nat.blt k 136) (cond (Nat.blt k 131) (cond (Nat.blt k 128) (cond (Nat.blt k 127) ((vI .i64 b.qn1)) ((vN .i64 b.qfr2))) (cond (Nat.blt k 129) ((vN .u64 b.qseq2)) (cond (Nat.blt k 130) ((vN .u64 b.qcall2)) ((vI .i64 b.qn2))))) (cond (Nat.blt k 133) (cond (Nat.blt k 132) ((vN .i64 b.qfr3)) ((vN .u64 b.qseq3))) (cond (Nat.blt k 134) ((vN .u64 b.qcall3)) (cond (Nat.blt k 135) ((vI .i64 b.qn3)) ((vN .i64 (b.rf + b.rc))))))) (cond (Nat.blt k 141) (cond (Nat.blt k 138) (cond (Nat.blt k 137) ((vN .i64 ((b.rf + b.rc) % b.lQ))) ((vN .i64 (b.rc + 1)))) (cond (Nat.blt k 139) ((b.mny)) (cond (Nat.blt k 140) ((b.rd1)) ((b.rd0))))) (cond (Nat.blt k 144) (cond (Nat.blt k 142) ((b.rd2)) (cond (Nat.blt k 143) ((b.rd3)) ((vN .i64 (b.rf + 0))))) (cond (Nat.blt k 145) ((vN .i64 ((b.rf + 0) % b.lQ))) (cond (Nat.blt k 146) ((vN .i64 (b.rf + 1))) ((vN .i64 ((b.rf + 1) % b.lQ)))))))) (cond (Nat.blt k 157) (cond (Nat.blt k 152) (cond (Nat.blt k 149) (cond (Nat.blt k 148) ((vN .i64 (b.rc - 1))) ((vI .i64 (b.v + b.bn)))) (cond (Nat.blt k 150) ((vN .u8 b.bfr)) (cond (Nat.blt k 151) ((vN .u8 (b.bcall / 256 ^ 0 % 256))) ((vN .u8 (b.bcall / 256 ^ 1 % 256)))))) (cond (Nat.blt k 154) (cond (Nat.blt k 153) ((vN .u8 (b.bcall / 256 ^ 2 % 256))) ((vN .u8 (b.bcall / 256 ^ 3 % 256)))) (cond (Nat.blt k 155) ((vN .u8 (b.bcall / 256 ^ 4 % 256))) (cond (Nat.blt k 156) ((vN .u8 (b.bcall / 256 ^ 5 % 256))) ((vN .u8 (b.bcall / 256 ^ 6 % 256))))))) (cond (Nat.blt k 162) (cond (Nat.blt k 159) (cond (Nat.blt k 158) ((vN .u8 (b.bcall / 256 ^ 7 % 256))) ((vN .u8 (((b.v + b.bn) % 18446744073709551616).toNat / 256 ^ 0 % 256)))) (cond (Nat.blt k 160) ((vN .u8 (((b.v + b.bn) % 18446744073709551616).toNat / 256 ^ 1 % 256))) (cond (Nat.blt k 161) ((vN .u8 (((b.v + b.bn) % 18446744073709551616).toNat / 256 ^ 2 % 256))) ((vN .u8 (((b.v + b.bn) % 18446744073709551616).toNat / 256 ^ 3 % 256)))))) (cond (Nat.blt k 165) (cond (Nat.blt k 163) ((vN .u8 (((b.v + b.bn) % 18446744073709551616).toNat / 256 ^ 4 % 256))) (cond (Nat.blt k 164) ((vN .u8 (((b.v + b.bn) % 18446744073709551616).toNat / 256 ^ 5 % 256))) ((vN .u8 (((b.v + b.bn) % 18446744073709551616).toNat / 256 ^ 6 % 256))))) (cond (Nat.blt k 166) ((vN .u8 (((b.v + b.bn) % 18446744073709551616).toNat / 256 ^ 7 % 256))) (cond (Nat.blt k 167) ((vI .i64 (b.v + b.fn))) ((vN .i64 (b.lL + 2))))))))))
def tauA (b : Bs) : Tk := ⟨fun k => (cond (Nat.blt k 1000000) (valA b k) ((b.rows (k / 1000000)).getD (k % 1000000) v0)).v, fun k => (cond (Nat.blt k 1000000) (valA b k) ((b.rows (k / 1000000)).getD (k % 1000000) v0)).h, b.ob⟩
def adl (f : Nat → Nat × Nat) : List (Nat × Nat) := [f 0, f 1, f 2, f 3, f 4, f 5, f 6, f 7, f 8, f 9, f 10, f 11, f 12, f 13, f 14, f 15, f 16, f 17, f 18, f 19, f 20, f 21, f 22, f 23, f 24, f 25, f 26, f 27, f 28, f 29, f 30, f 31, f 32, f 33, f 34, f 35, f 36, f 37, f 38, f 39, f 40, f 41, f 42, f 43, f 44, f 45, f 46, f 47]
noncomputable abbrev DA (f : Nat → Nat × Nat) (b : Bs) (e : Nm → Nat × Nat) : Dt := ⟨adX (adl f) e, tauA b⟩
noncomputable def comE : List (Nm × O) := [b0, b1, b2, b3, b4]
noncomputable def hp0 : List (Nm × O) := [b5, b6, b7, b8, b9, b10, b11, b12, b13]
noncomputable def hp1 : List (Nm × O) := [b5, b6, b7, b23, b9, b10, b11, b24, b13]
noncomputable def netN : List (Nm × O) := [b36, b37, b38]
noncomputable def netR : List (Nm × O) := [b59, b60, b37, b38]
noncomputable def h0n : List (Nm × O) := [b14, b15, b16, b17, b18, b19, b20]
noncomputable def h0r : List (Nm × O) := [b32, b15, b16, b17, b18, b19, b20, b33]
noncomputable def h0a : List (Nm × O) := [b73, b15, b16, b17, b18, b19, b20]
noncomputable def h0t : List (Nm × O) := [b34, b15, b16, b17, b18, b19, b20]
noncomputable def thC : List (Nm × O) := [b96, b97, b140]
noncomputable def thB : List (Nm × O) := [b96, b97, b126]
noncomputable def frC : List (Nm × O) := [b141, b128]
noncomputable def frB : List (Nm × O) := [b127, b128]
noncomputable def rgN : List (Nm × O) := [b74]
noncomputable def rgO : List (Nm × O) := [b90, b91]
noncomputable def pkC : List (Nm × O) := [b72]
noncomputable def pkR : List (Nm × O) := [b94]
noncomputable def hiB : List (Nm × O) := [b40, b41, b42, b43, b44, b45, b46, b47]
end Go.Proofs.YtpcdcemcjbeajaaGreatDoor
end
section
set_option linter.unusedVariables false
set_option linter.unusedSimpArgs false
set_option maxRecDepth 100000
namespace Go.Proofs.YtpcdcemcjbeajaaGreatDoor
open Go Go.RowKit
theorem Ctr.frame {P : Program} {g : FuncId} {args : List Value} {w : World} {L Lp Lr : List Ent} {R : Value → List Ent → Prop} (hp : L.Perm (Lp ++ Lr)) (hown : ∀ p ∈ L, w.heap[p.1]? = some p.2) (hnd : (keys L).Nodup) (h : (∀ p ∈ Lp, w.heap[p.1]? = some p.2) → (keys Lp).Nodup → Ctr P g args w Lp R) (hen : ∀ args w, (callFunc g args).run P w = .ok (.enter g args) w) : Ctr P g args w L (fun x L' => ∃ Lq, L' = Lq ++ Lr ∧ R x Lq) := by
  have h1 : (keys (Lp ++ Lr)).Nodup := keys_perm hp hnd
  have hc := Called.frame (Lp := Lp) (Lr := Lr) hp.symm hown hnd (.inl ⟨hen, h (fun p hq => hown p (hp.mem_iff.2 (List.mem_append_left _ hq))) (by
    unfold keys at h1 ⊢
    rw [List.map_append, List.nodup_append] at h1; exact h1.1)⟩)
  rcases hc with ⟨_, hc⟩ | ⟨x1, w', L', hc, _⟩
  · exact hc.mono fun x L' ⟨Lq, h1, _, h2⟩ => ⟨Lq, h1, h2⟩
  · rw [hen] at hc; injection hc with hc; cases hc
theorem needE_app (D : Dt) (k : Nat) (x : Nm → Xt) : ∀ (a b : List (Nm × O)), needE D k x (a ++ b) = needE D k x a ++ needE D k x b
  | [], b => rfl
  | p :: a, b => by
    show needO D k p.1 (x p.1) p.2 ++ needE D k x (a ++ b) = (needO D k p.1 (x p.1) p.2 ++ needE D k x a) ++ needE D k x b
    rw [needE_app D k x a b, List.append_assoc]
theorem infE_app (D : Dt) (x : Nm → Xt) : ∀ (a b : List (Nm × O)), infE D x (a ++ b) = infE D x a ++ infE D x b
  | [], b => rfl
  | p :: a, b => by
    show infO D p.1 (x p.1) p.2 ++ infE D x (a ++ b) = (infO D p.1 (x p.1) p.2 ++ infE D x a) ++ infE D x b
    rw [infE_app D x a b, List.append_assoc]
def vals (l : List V1) : List Value := l.map V1.v
theorem vals_app (l m : List V1) : vals (l ++ m) = vals l ++ vals m := by simp [vals]
theorem vals_len (l : List V1) : (vals l).length = l.length := by simp [vals]
theorem tks_vals (D : Dt) (rw_ : List V1) (base : Nat) : ∀ (n i : Nat), (∀ j, j < n → D.tk.val (base + i + j) = (rw_.getD (i + j) v0).v) → i + n ≤ rw_.length → (tks (base + i) n).map (deS D) = vals ((rw_.drop i).take n)
  | 0, i, _, _ => by simp [tks, vals]
  | n + 1, i, h, hl => by
    show deS D (tK (base + i)) :: (tks (base + i + 1) n).map (deS D) = _
    have h1 := tks_vals D rw_ base n (i + 1) (fun j hj => by have := h (j + 1) (by omega); rw [show base + (i + 1) + j = base + i + (j + 1) by omega, show i + 1 + j = i + (j + 1) by omega]; exact this) (by omega)
    rw [show base + i + 1 = base + (i + 1) by omega, h1]
    have h0 := h 0 (by omega)
    have hd : rw_.drop i = rw_[i]'(by omega) :: rw_.drop (i + 1) := List.drop_eq_getElem_cons (by omega)
    rw [hd, List.take_succ_cons]
    show deS D (tK (base + i)) :: _ = (rw_[i]'(by omega)).v :: _
    congr 1
    show D.tk.val (base + i) = _
    rw [show base + i = base + i + 0 by omega, h0]
    simp [show i < rw_.length by omega]
theorem tau_row {b : Bs} {r j : Nat} (hr : 1 ≤ r) (hj : j < 1000000) : (tauA b).val (1000000 * r + j) = ((b.rows r).getD j v0).v := by
  show (cond (Nat.blt (1000000 * r + j) 1000000) (valA b _) ((b.rows ((1000000 * r + j) / 1000000)).getD ((1000000 * r + j) % 1000000) v0)).v = _
  rw [blt_false (by omega), show (1000000 * r + j) / 1000000 = r by omega, show (1000000 * r + j) % 1000000 = j by omega]
  rfl
theorem row_seg {f : Nat → Nat × Nat} {b : Bs} {e : Nm → Nat × Nat} {r i n : Nat} (hr : 1 ≤ r) (hl : i + n ≤ (b.rows r).length) (hb : (b.rows r).length < 1000000) : (tks (1000000 * r + i) n).map (deS (DA f b e)) = vals (((b.rows r).drop i).take n) :=
  tks_vals (DA f b e) (b.rows r) (1000000 * r) n i (fun j hj => by rw [show 1000000 * r + i + j = 1000000 * r + (i + j) by omega]; exact tau_row hr (by omega)) hl
theorem row_all {f : Nat → Nat × Nat} {b : Bs} {e : Nm → Nat × Nat} {r n : Nat} (hr : 1 ≤ r) (hl : n = (b.rows r).length) (hb : (b.rows r).length < 1000000) : (tks (1000000 * r) n).map (deS (DA f b e)) = vals (b.rows r) := by
  have := row_seg (f := f) (b := b) (e := e) (r := r) (i := 0) (n := n) hr (by omega) hb
  rw [Nat.add_zero, List.drop_zero, hl, List.take_length] at this
  rw [hl]; exact this
noncomputable def midT (base i : Nat) (cs : List S) (n : Nat) : List S := tks base i ++ (cs ++ tks (base + (i + cs.length)) (n - (i + cs.length)))
theorem mid_len {base i n : Nat} {cs : List S} (h : i + cs.length ≤ n) : (midT base i cs n).length = n := by simp [midT, tks_len]; omega
theorem mid_vals {f : Nat → Nat × Nat} {b : Bs} {e : Nm → Nat × Nat} {r i n : Nat} {cs : List S} (hr : 1 ≤ r) (hl : n = (b.rows r).length) (hb : (b.rows r).length < 1000000) (hi : i + cs.length ≤ n) (hc : cs.map (deS (DA f b e)) = vals (((b.rows r).drop i).take cs.length)) : (midT (1000000 * r) i cs n).map (deS (DA f b e)) = vals (b.rows r) := by
  unfold midT
  rw [List.map_append, List.map_append, hc]
  have h1 := row_seg (f := f) (b := b) (e := e) (r := r) (i := 0) (n := i) hr (by omega) hb
  have h2 := row_seg (f := f) (b := b) (e := e) (r := r) (i := i + cs.length) (n := n - (i + cs.length)) hr (by omega) hb
  rw [Nat.add_zero] at h1
  rw [h1, h2, ← vals_app, ← vals_app]
  congr 1
  rw [List.drop_zero]
  have e1 : ((b.rows r).drop (i + cs.length)).take (n - (i + cs.length)) = (b.rows r).drop (i + cs.length) := List.take_of_length_le (by simp; omega)
  rw [e1, ← List.drop_drop, List.take_append_drop, List.take_append_drop]
theorem tak_app : ∀ (cs l : List S), tak (cs ++ l) cs.length = some cs
  | [], l => rfl
  | c :: cs, l => by
    show ocons c (tak (cs ++ l) cs.length) = _
    rw [tak_app cs l]; rfl
theorem cut_mid {base i n : Nat} {cs : List S} : cut (midT base i cs n) i cs.length = some cs := by
  unfold cut midT
  rw [drp_eq, List.drop_append_of_le_length (by rw [tks_len]; exact Nat.le_refl _), List.drop_of_length_le (by rw [tks_len]; exact Nat.le_refl _), List.nil_append, tak_app]
theorem ovr_app : ∀ (cs ds l : List S), cs.length = ds.length → ovr cs (ds ++ l) = some (cs ++ l)
  | [], [], l, _ => rfl
  | c :: cs, d :: ds, l, h => by
    show ocons c (ovr cs (ds ++ l)) = _
    rw [ovr_app cs ds l (by simpa using h)]; rfl
  | [], _ :: _, _, h => by cases h
  | _ :: _, [], _, h => by cases h
theorem over_app : ∀ (l1 cs ds l : List S), cs.length = ds.length → over (l1 ++ (ds ++ l)) l1.length cs = some (l1 ++ (cs ++ l))
  | [], cs, ds, l, h => ovr_app cs ds l h
  | x :: l1, cs, ds, l, h => by
    show ocons x (over (l1 ++ (ds ++ l)) l1.length cs) = _
    rw [over_app l1 cs ds l h]; rfl
theorem over_mid {base i n : Nat} {cs ds : List S} (h : cs.length = ds.length) : over (midT base i ds n) i cs = some (midT base i cs n) := by
  have := over_app (tks base i) cs ds (tks (base + (i + ds.length)) (n - (i + ds.length))) h
  rw [tks_len] at this
  unfold midT
  rw [h]; exact this
theorem bnd_tks (k : Nat) : ∀ n i, ∀ s ∈ tks i n, bndS k s = true
  | 0, i, s, h => by cases h
  | n + 1, i, s, h => by
    rcases List.mem_cons.1 h with rfl | h
    · rfl
    · exact bnd_tks k n (i + 1) s h
theorem fn_tks : ∀ n i, (tks i n).all fnS = true
  | 0, i => rfl
  | n + 1, i => by show (fnS (tK i) && (tks (i + 1) n).all fnS) = true; rw [fn_tks n]; rfl
theorem needL_app (D : Dt) : ∀ (a b : List S), needL D (a ++ b) = needL D a ++ needL D b
  | [], b => rfl
  | s :: a, b => by
    show needS D s ++ needL D (a ++ b) = (needS D s ++ needL D a) ++ needL D b
    rw [needL_app D a b, List.append_assoc]
theorem bnd_mid {k base i n : Nat} {cs : List S} (h : ∀ s ∈ cs, bndS k s = true) : ∀ s ∈ midT base i cs n, bndS k s = true := fun s hs => by
  rcases List.mem_append.1 hs with hs | hs
  · exact bnd_tks k _ _ s hs
  · rcases List.mem_append.1 hs with hs | hs
    · exact h s hs
    · exact bnd_tks k _ _ s hs
theorem fn_mid {base i n : Nat} {cs : List S} (h : cs.all fnS = true) : (midT base i cs n).all fnS = true := by
  unfold midT
  rw [List.all_append, List.all_append, fn_tks, fn_tks, h]; rfl
theorem needL_mid (D : Dt) {base i n : Nat} {cs : List S} : needL D (midT base i cs n) = needL D cs := by
  unfold midT
  rw [needL_app, needL_app, needL_tks, needL_tks]; simp
theorem op_tks {D : Dt} {n : Nm} {x : Xt} {t r m base : Nat} (hb : m * (r + 1) + x.1.length = (D.ad n).2 * (r + 1)) : opPre D 48 n x (.c t (r + 1) m (tks base (m * (r + 1)))) :=
  ⟨bnd_tks 48 _ _, by rw [needL_tks]; trivial, tks_len _ _, by rw [tks_len]; exact hb, trivial⟩
theorem op_mid {D : Dt} {n : Nm} {x : Xt} {t r m base i : Nat} {cs : List S} (hi : i + cs.length ≤ m * (r + 1)) (hc : ∀ s ∈ cs, bndS 48 s = true) (hn : AllP (needL D cs)) (hb : m * (r + 1) + x.1.length = (D.ad n).2 * (r + 1)) : opPre D 48 n x (.c t (r + 1) m (midT base i cs (m * (r + 1)))) :=
  ⟨bnd_mid hc, by rw [needL_mid]; exact hn, mid_len hi, by rw [mid_len hi]; exact hb, trivial⟩
end Go.Proofs.YtpcdcemcjbeajaaGreatDoor
end
section
set_option linter.unusedVariables false
set_option linter.unusedSimpArgs false
set_option maxRecDepth 100000
namespace Go.Proofs.YtpcdcemcjbeajaaGreatDoor
open Go Go.RowKit
def formV : List Value := [2, 0, 0, 0, 0, 0, 0, 0, 0, 0, 0, 0, 0, 0, 0, 0, 100, 3, 0, 0, 0, 0, 0, 0, 0, 0, 0, 0, 0, 0, 0, 0, 0, 0, 0, 0, 0, 0, 0, 0, 0, 0, 0, 0, 0, 0, 0, 0, 0, 0, 1, 1, 0, 0, 0, 0, 0, 0, 0, 0, 0, 0, 0, 0, 0, 0, 0, 2, 2, 2, 6, 6, 3, 0, 0, 0, 0, 0, 2, 0, 0, 0, 0, 0, 5, 0, 0, 0, 0, 0, 4, 0, 0, 0, 0, 0, 3, 0, 0, 0, 0, 0, 11, 0, 0, 0, 0, 0, 3, 9, 0, 0, 0, 0, 0, 3, 0, 0, 0, 0, 0, 11, 0, 0, 0, 0, 0, 3, 10, 0, 0, 0, 0, 0, 3, 0, 0, 0, 0, 0, 11, 0, 0, 0, 0, 0, 3, 2, 0, 0, 0, 0, 0, 8, 0, 0, 0, 0, 0, 11, 0, 0, 0, 0, 0, 5, 2, 0, 0, 0, 0, 0, 8, 4, 0, 0, 0, 0, 1, 0, 1, 0, 0, 0, 5, 0, 0, 0, 0, 0, 11, 0, 0, 0, 0, 0, 3, 9, 0, 1, 0, 0, 0, 3, 0, 0, 0, 0, 0, 11, 0, 0, 0, 0, 0, 0, 0, 0, 0, 0, 0, 0, 0, 0, 0, 0, 0, 0, 0, 0, 101, 2, 0, 0, 0, 0, 0, 0, 0, 0, 0, 0, 0, 0, 0, 0, 0, 0, 0, 0, 0, 0, 0, 0, 0, 0, 0, 0, 0, 0, 0, 0, 0, 0, 1, 1, 2, 3, 6, 3, 0, 0, 0, 0, 0, 2, 0, 0, 0, 0, 0, 5, 0, 0, 0, 0, 0, 4, 0, 0, 0, 0, 0, 3, 0, 0, 0, 0, 0, 11, 0, 0, 0, 0, 0, 3, 9, 0, 0, 0, 0, 0, 3, 0, 0, 0, 0, 0, 11, 0, 0, 0, 0, 0, 3, 10, 0, 0, 0, 0, 0, 3, 0, 0, 0, 0, 0, 11, 0, 0, 0, 0, 0].map fun (n : Nat) => Value.int .u8 (n : Int)
def comA (F : Nat → Nat × Nat) (J : Nat → List Value) (b : Bs) (r4 : Ent) : List Ent := [((F 1).1, cel 42 [.pointer (some ⟨(F 2).1, 0, none⟩), .int .i64 (b.H : Int), .slice (some ⟨(F 5).1, 0, none⟩) b.lL (F 5).2]), ((F 2).1, cel 77 [.pointer (some ⟨(F 3).1, 0, none⟩), b.pl0.v, b.pl1.v, b.pl2.v, b.pl3.v, b.pl4.v, b.pl5.v, b.pl6.v, b.pl7.v, b.pl8.v]), ((F 3).1, cel 103 [b.w0.v, b.w1.v, .int .i64 2, .int .i64 2, .int .i64 1, .slice (some ⟨(F 4).1, 0, none⟩) b.H (F 4).2, .pointer (some ⟨(F 6).1, 0, none⟩), .map (some (F 10).1), b.w8.v, b.w9.v, b.w10.v, .pointer (some ⟨(F 15).1, 0, none⟩), .pointer (some ⟨(F 11).1, 0, none⟩), b.w13.v, .int .u64 (b.calls : Int), .pointer none, .slice none 0 0, b.told.v]), r4]
def hpA (F : Nat → Nat × Nat) (J : Nat → List Value) (b : Bs) (k : Nat) : List Ent := [((F 6).1, cel 212 [.int .u32 1048576, .pointer (some ⟨(F 7).1, 0, none⟩)]), ((F 7).1, cel 332 [.int .i64 256, .int .u32 1, .slice (some ⟨(F 8).1, 0, none⟩) 1 (F 8).2, .slice none 0 0, .int .i64 1]), ((F 8).1, cel 488 ([.pointer (some ⟨(F 9).1, 0, none⟩), .int .u32 1, .bool true] ++ J 8)), ((F 9).1, cel 367 [.int .u32 (3 + (k : Nat) : Nat), .int .u64 0, .int .i64 b.v, b.ol.v, .slice none 0 0]), ((F 10).1, .map #[{ key := .int .u64 4294967297, val := .agg #[.int .i64 0, .int .i64 0, .int .i64 0], born := 0 }] 1), ((F 11).1, cel 184 [.slice (some ⟨(F 12).1, 0, none⟩) 1 (F 12).2, .int .i64 1]), ((F 12).1, cel 159 ([.pointer (some ⟨(F 13).1, 0, none⟩)] ++ J 12)), ((F 13).1, cel 164 [.slice (some ⟨(F 14).1, 0, none⟩) 343 (F 14).2, .slice (some ⟨(F 40).1, 0, none⟩) 2 (F 40).2, .bool true, .int .u32 1, .int .u32 0, .int .u32 (k : Nat), .int .i64 0]), ((F 14).1, cel 5 (formV ++ J 14))]
def netA (F : Nat → Nat × Nat) (J : Nat → List Value) (b : Bs) (r : Value) : List Ent := [((F 15).1, cel 238 [.int .i64 4096, r, .map (some (F 17).1), .map (some (F 18).1)])]
def h0A (F : Nat → Nat × Nat) (J : Nat → List Value) (b : Bs) (r : Value) : List Ent := [((F 20).1, cel 118 [.bool false, .bool false, .pointer (some ⟨(F 21).1, 0, none⟩), .pointer (some ⟨(F 23).1, 0, none⟩), b.hs.v, b.hl.v, .pointer (some ⟨(F 27).1, 0, none⟩), r]), ((F 21).1, cel 191 [.int .i64 256, .int .u32 1, .slice (some ⟨(F 22).1, 0, none⟩) 2 (F 22).2, .slice none 0 0, .int .i64 2]), ((F 22).1, cel 344 ([.int .i64 1, .int .u64 4294967297, .int .u8 0, .int .u8 0, .int .u8 0, .int .u8 0, .int .u8 0, .int .u8 0, .int .u8 0, .int .u8 0, .int .u8 0, .int .u8 0, .int .u8 0, .int .u8 0, .int .u8 0, .int .u8 0, .int .u8 0, .int .u8 0, .int .u32 1, .int .u32 1, .bool true, .int .i64 1, .int .u64 4294967297, .int .u8 0, .int .u8 0, .int .u8 0, .int .u8 0, .int .u8 0, .int .u8 0, .int .u8 0, .int .u8 0, .int .u8 0, .int .u8 0, .int .u8 0, .int .u8 0, .int .u8 0, .int .u8 0, .int .u8 0, .int .u8 0, .int .u32 1, .int .u32 1, .bool true] ++ J 22)), ((F 23).1, cel 197 [.int .u64 0, .pointer (some ⟨(F 24).1, 0, none⟩)]), ((F 24).1, cel 326 [.int .i64 1024, .int .u32 1, .slice (some ⟨(F 25).1, 0, none⟩) 1 (F 25).2, .slice none 0 0, .int .i64 1]), ((F 25).1, cel 363 ([.pointer (some ⟨(F 26).1, 0, none⟩), .int .u32 1, .bool true] ++ J 25)), ((F 26).1, cel 263 [.int .u64 4294967297, .int .u8 0, .int .u8 0, .int .u8 0, .int .u8 0, .int .u8 0, .int .u8 0, .int .u8 0, .int .u8 0, .int .u8 0, .int .u8 0, .int .u8 0, .int .u8 0, .int .u8 0, .int .u8 0, .int .u8 0, .int .u8 0, b.sc.v, .int .u32 0, .int .u32 1, .int .u32 0])]
def rgA (F : Nat → Nat × Nat) (J : Nat → List Value) (b : Bs) (r : Value) (f c : Nat) : List Ent := [((F 27).1, cel 206 [.int .i64 16, r, .int .i64 (f : Int), .int .i64 (c : Int)])]
def th0C (F : Nat → Nat × Nat) (J : Nat → List Value) (b : Bs) : List Ent := [((F 30).1, cel 290 [.pointer (some ⟨(F 31).1, 0, none⟩)]), ((F 31).1, cel 295 [.int .u64 4294967297, .int .i64 0, .int .i64 0, .int .i64 b.fn, .pointer (some ⟨(F 38).1, 0, none⟩), .int .i64 0, .int .u64 0, .int .u64 0, .bool false, .int .i64 0, .int .i64 0, .int .i64 0, .int .i64 0, .int .i64 0, .int .u64 0, .int .u64 0, .int .u8 0, .int .u8 0, .int .u8 0, .int .u8 0, .int .u8 0, .int .u8 0, .int .u8 0, .int .u8 0, .int .u8 0, .int .u8 0, .int .u8 0, .int .u8 0, .int .u8 0, .int .u8 0, .int .u8 0, .int .u8 0, .int .i64 0, .int .i64 0, .int .i64 0, .slice none 0 0, .int .u64 (b.fcl : Int)])]
def th0B (F : Nat → Nat × Nat) (J : Nat → List Value) (b : Bs) : List Ent := [((F 30).1, cel 290 [.pointer (some ⟨(F 31).1, 0, none⟩)]), ((F 31).1, cel 295 [.int .u64 4294967297, .int .i64 0, .int .i64 0, .int .i64 b.bn, .pointer (some ⟨(F 38).1, 0, none⟩), .int .i64 0, .int .u64 0, .int .u64 0, .bool false, .int .i64 0, .int .i64 0, .int .i64 1, .int .i64 (b.bfr : Int), .int .i64 0, .int .u64 (b.bseq : Int), .int .u64 (b.bcall : Int), .int .u8 0, .int .u8 0, .int .u8 0, .int .u8 0, .int .u8 0, .int .u8 0, .int .u8 0, .int .u8 0, .int .u8 0, .int .u8 0, .int .u8 0, .int .u8 1, .int .u8 0, .int .u8 0, .int .u8 0, .int .u8 1, .int .i64 0, .int .i64 b.bn, .int .i64 0, .slice none 0 0, .int .u64 0])]
def fr0C (F : Nat → Nat × Nat) (J : Nat → List Value) (b : Bs) : List Ent := [((F 38).1, cel 531 [.slice (some ⟨(F 39).1, 0, none⟩) 6 (F 39).2, .int .i64 b.fn, .int .i64 0, .slice none 0 0, .bool false, .bool false]), ((F 39).1, cel 89 ([.int .i64 3, .int .i64 0, .int .i64 0, .int .i64 2, .int .i64 0, .int .i64 0, .int .i64 5, .int .i64 0, .int .i64 0, .int .i64 4, .int .i64 0, .int .i64 0, .int .i64 3, .int .i64 0, .int .i64 0, .int .i64 11, .int .i64 0, .int .i64 0] ++ J 39))]
def fr0B (F : Nat → Nat × Nat) (J : Nat → List Value) (b : Bs) : List Ent := [((F 38).1, cel 531 [.slice (some ⟨(F 39).1, 0, none⟩) 6 (F 39).2, .int .i64 b.bn, .int .i64 0, .slice none 0 0, .bool false, .bool false]), ((F 39).1, cel 89 ([.int .i64 3, .int .i64 0, .int .i64 0, .int .i64 2, .int .i64 0, .int .i64 0, .int .i64 5, .int .i64 0, .int .i64 0, .int .i64 4, .int .i64 0, .int .i64 0, .int .i64 3, .int .i64 0, .int .i64 0, .int .i64 11, .int .i64 0, .int .i64 0] ++ J 39))]
def hbA (F : Nat → Nat × Nat) (J : Nat → List Value) (b : Bs) : List Ent := [((F 21).1, cel 191 [.int .i64 256, .int .u32 1, .slice (some ⟨(F 22).1, 0, none⟩) 1 (F 22).2, .slice none 0 0, .int .i64 1]), ((F 22).1, cel 344 ([.int .i64 2, .int .u64 (b.lh : Int), .int .u8 0, .int .u8 0, .int .u8 0, .int .u8 0, .int .u8 0, .int .u8 0, .int .u8 0, .int .u8 0, .int .u8 0, .int .u8 0, .int .u8 0, .int .u8 0, .int .u8 0, .int .u8 0, .int .u8 0, .int .u8 0, .int .u32 1, .int .u32 1, .bool true] ++ J 22)), ((F 23).1, cel 203 [.pointer (some ⟨(F 24).1, 0, none⟩)]), ((F 24).1, cel 329 [.int .i64 256, .int .u32 1, .slice (some ⟨(F 25).1, 0, none⟩) 1 (F 25).2, .slice none 0 0, .int .i64 1]), ((F 25).1, cel 485 ([.pointer (some ⟨(F 26).1, 0, none⟩), .int .u32 1, .bool true] ++ J 25)), ((F 26).1, cel 408 [.int .u64 0, .int .u64 4294967297, .int .u32 1, .bool false, .slice (some ⟨(F 27).1, 0, none⟩) 1 (F 27).2]), ((F 27).1, cel 148 ([.int .u32 0, .int .u32 1, .int .u64 0, .int .u64 4294967297, .int .u8 0, .int .u8 0, .int .u8 0, .int .u8 0, .int .u8 0, .int .u8 0, .int .u8 0, .int .u8 0, .int .u8 0, .int .u8 0, .int .u8 0, .int .u8 1, .int .u8 0, .int .u8 0, .int .u8 0, .int .u8 1, .int .u8 0, .int .u8 0, .int .u8 0, .int .u8 0, .int .u8 0, .int .u8 0, .int .u8 0, .int .u8 0, .int .u8 0, .int .u8 0, .int .u8 0, .int .u8 0, .int .u8 0, .int .u8 0, .int .u8 0, .int .u8 0] ++ J 27)), ((F 28).1, cel 206 [.int .i64 16, .slice none 0 0, .int .i64 0, .int .i64 0])]
end Go.Proofs.YtpcdcemcjbeajaaGreatDoor
end
section
set_option linter.unusedVariables false
set_option linter.unusedSimpArgs false
set_option maxRecDepth 100000
namespace Go.Proofs.YtpcdcemcjbeajaaGreatDoor
open Go Go.RowKit
structure Th where
  row : Nat
  fr : Nat
  wt : Nat
  cl : Nat
  rs : Option Int
structure Pk where
  b : Nat
  c : Nat
  jk : List Value
  kd : Nat
  fr : Nat
  to : Nat
  seq : Nat
  call : Nat
  n : Int
structure Hm where
  F : Nat → Nat × Nat
  J : Nat → List Value
  hs : V1
  hl : V1
  lh : Nat
  many : Bool
  tr : Bool
  ths : List Th
inductive T0 | nil | row | cli | bak
abbrev Rd3 := Nat × Nat × Nat × Nat
structure Sta where
  F : Nat → Nat × Nat
  J : Nat → List Value
  O : Obj
  b : Bs
  nr : Bool
  net : List Pk
  sent : List Rd3
  sck : Nat
  came : List Rd3
  cck : Nat
  t0 : T0
  rg : Bool
  hms : List Hm
def Pk.ip (p : Pk) : List Nat := match p.kd with | 1 => [0, 0, 0, 0, 0, 0, 0, 0, 0, 0, 0, 1, 0, 0, 0, 1] | _ => [0, 0, 0, 0, 0, 0, 0, 0, 0, 0, 0, 0, 0, 0, 0, 0]
def Pk.bytes (p : Pk) : List Nat := pkBytes p.kd p.fr p.to p.seq p.call p.ip 0 p.n 0
def Pk.slice (p : Pk) : V1 := vS (some ⟨p.b, 0, none⟩) p.bytes.length p.c
def Th.slice (t : Th) : V1 := vS (some ⟨t.row, 0, none⟩) 1 1
def Th.frame (t : Th) : List Value := [.int .u64 0, .int .i64 0, .int .i64 0, .int .i64 0, .pointer none, .int .i64 0, .int .u64 0, .int .u64 (t.wt : Int), .bool t.rs.isSome, .int .i64 (t.rs.getD 0), .int .i64 0, .int .i64 0, .int .i64 0, .int .i64 0, .int .u64 0, .int .u64 0, .int .u8 0, .int .u8 0, .int .u8 0, .int .u8 0, .int .u8 0, .int .u8 0, .int .u8 0, .int .u8 0, .int .u8 0, .int .u8 0, .int .u8 0, .int .u8 0, .int .u8 0, .int .u8 0, .int .u8 0, .int .u8 0, .int .i64 0, .int .i64 0, .int .i64 0, .slice none 0 0, .int .u64 (t.cl : Int)]
noncomputable def sentS (e : Rd3) : A1 × A1 × Nat := (.a [iI e.1, iI e.2.1], .s (iU e.2.2.1), e.2.2.2)
def sentV (e : Rd3) : MapEntry := { key := .agg #[.int .i64 (e.1 : Int), .int .i64 (e.2.1 : Int)], val := .int .u64 (e.2.2.1 : Int), born := e.2.2.2 }
noncomputable def cameS (e : Rd3) : A1 × A1 × Nat := (.a [iI e.1, iI e.2.1, iU e.2.2.1], .a [], e.2.2.2)
def cameV (e : Rd3) : MapEntry := { key := .agg #[.int .i64 (e.1 : Int), .int .i64 (e.2.1 : Int), .int .u64 (e.2.2.1 : Int)], val := .agg #[], born := e.2.2.2 }
noncomputable def xS (J : Nat → List Value) (o : Obj) : Nm → Xt := fun m => (J m.val, o)
noncomputable abbrev noN : Nm → Nat × Nat := fun _ => (0, 0)
def sl (F : Nat → Nat × Nat) (r n : Nat) : Value := .slice (some ⟨(F r).1, 0, none⟩) n (F r).2
def nilS : Value := .slice none 0 0
def busy : T0 → Nat | .nil => 0 | .row => 0 | .cli => 1 | .bak => 1
def thrV (F : Nat → Nat × Nat) : T0 → V1 | .nil => vS none 0 0 | .row => vS (some ⟨(F 29).1, 0, none⟩) 0 (F 29).2 | .cli => vS (some ⟨(F 29).1, 0, none⟩) 1 (F 29).2 | .bak => vS (some ⟨(F 29).1, 0, none⟩) 1 (F 29).2
def thr0 (F : Nat → Nat × Nat) (t : T0) : Value := (thrV F t).v
def rowE (F : Nat → Nat × Nat) (J : Nat → List Value) (k t : Nat) (l : List V1) : Ent := ((F k).1, cel t (vals l ++ J k))
def row29 (F : Nat → Nat × Nat) (J : Nat → List Value) : T0 → List Ent
  | .nil => []
  | .row => [((F 29).1, cel 289 ([] ++ J 29))]
  | _ => [((F 29).1, cel 289 ([.slice (some ⟨(F 30).1, 0, none⟩) 1 1] ++ J 29))]
def thF (F : Nat → Nat × Nat) (J : Nat → List Value) (b : Bs) : T0 → List Ent | .nil => [] | .row => [] | .cli => th0C F J b ++ fr0C F J b | .bak => th0B F J b ++ fr0B F J b
def netM (F : Nat → Nat × Nat) (s : List Rd3) (sc : Nat) (c : List Rd3) (cc : Nat) : List Ent := [((F 17).1, .map (s.map sentV).toArray sc), ((F 18).1, .map (c.map cameV).toArray cc)]
def gPk (p : Pk) : List Ent := [(p.b, cel 5 (p.bytes.map (fun (x : Nat) => Value.int .u8 (x : Int)) ++ p.jk))]
def gTh (t : Th) : List Ent := [(t.row, cel 290 [.pointer (some ⟨t.fr, 0, none⟩)]), (t.fr, cel 295 t.frame)]
def Hm.thr (h : Hm) : Value := cond h.tr (sl h.F 29 h.ths.length) nilS
def gH20 (F : Nat → Nat × Nat) (many : Bool) (hs hl : V1) (thr : Value) : List Ent := [((F 20).1, cel 118 [.bool many, .bool false, .pointer (some ⟨(F 21).1, 0, none⟩), hs.v, .pointer (some ⟨(F 23).1, 0, none⟩), hl.v, .pointer (some ⟨(F 28).1, 0, none⟩), thr])]
def gH29 (h : Hm) : List Ent := cond h.tr [rowE h.F h.J 29 289 (h.ths.map Th.slice)] []
def gHm (b : Bs) (h : Hm) : List Ent := gH20 h.F h.many h.hs h.hl h.thr ++ (hbA h.F h.J { b with lh := h.lh } ++ (gH29 h ++ h.ths.flatMap gTh))
def netSl (F : Nat → Nat × Nat) (nr : Bool) (n : Nat) : Value := cond nr (sl F 16 n) nilS
def netR_ (F : Nat → Nat × Nat) (J : Nat → List Value) (nr : Bool) (l : List V1) : List Ent := cond nr [rowE F J 16 161 l] []
def rgSl (F : Nat → Nat × Nat) (rg : Bool) (n : Nat) : Value := cond rg (sl F 28 n) nilS
def rgR_ (F : Nat → Nat × Nat) (rg : Bool) (l : List V1) : List Ent := cond rg [((F 28).1, cel 134 (vals l))] []
def comS (s : Sta) : List Ent := comA s.F s.J s.b (rowE s.F s.J 4 111 (s.b.rows 2))
def blocks (s : Sta) : List Ent := [((s.F 0).1, s.O)] ++ (comS s ++ ([rowE s.F s.J 5 50 (s.b.rows 1)] ++ (hpA s.F s.J s.b (busy s.t0) ++ (netA s.F s.J s.b (netSl s.F s.nr s.b.lR) ++ (netR_ s.F s.J s.nr (s.b.rows 3) ++ (netM s.F s.sent s.sck s.came s.cck ++ (h0A s.F s.J s.b (thr0 s.F s.t0) ++ (row29 s.F s.J s.t0 ++ (thF s.F s.J s.b s.t0 ++ (rgA s.F s.J s.b (rgSl s.F s.rg s.b.lQ) s.b.rf s.b.rc ++ (rgR_ s.F s.rg (s.b.rows 7) ++ (s.hms.flatMap (gHm s.b) ++ s.net.flatMap gPk))))))))))))
def RmCom (F : Nat → Nat × Nat) (J : Nat → List Value) (b : Bs) : Prop := b.H * 1 + (J 4).length = (F 4).2 * 1 ∧ b.lL * 6 + (J 5).length = (F 5).2 * 6
def RmHp (F : Nat → Nat × Nat) (J : Nat → List Value) : Prop := 3 + (J 8).length = (F 8).2 * 3 ∧ 1 + (J 12).length = (F 12).2 * 1 ∧ 343 + (J 14).length = (F 14).2 * 1 ∧ 2 ≤ (F 40).2
def RmNet (F : Nat → Nat × Nat) (J : Nat → List Value) (nr : Bool) (b : Bs) : Prop := nr = true → b.lR * 1 + (J 16).length = (F 16).2 * 1
def RmH0 (F : Nat → Nat × Nat) (J : Nat → List Value) : Prop := 42 + (J 22).length = (F 22).2 * 21 ∧ 3 + (J 25).length = (F 25).2 * 3
def RmT0 (F : Nat → Nat × Nat) (J : Nat → List Value) (t : T0) : Prop := match t with
  | .nil => True
  | .row => 0 + (J 29).length = (F 29).2 * 1
  | _ => 1 + (J 29).length = (F 29).2 * 1 ∧ 18 + (J 39).length = (F 39).2 * 3
def RmRg (F : Nat → Nat × Nat) (rg : Bool) (b : Bs) : Prop := rg = true → (F 28).2 = b.lQ
def RmHm (h : Hm) : Prop := (21 + (h.J 22).length = (h.F 22).2 * 21 ∧ 3 + (h.J 25).length = (h.F 25).2 * 3 ∧ 36 + (h.J 27).length = (h.F 27).2 * 36) ∧ (h.tr = true → h.ths.length * 1 + (h.J 29).length = (h.F 29).2 * 1) ∧ (h.tr = false → h.ths = [])
section
variable {f : Nat → Nat × Nat} {J : Nat → List Value} {o : Obj} {b : Bs}
theorem need_com (h : RmCom f J b) (h1 : opPre (DA f b noN) 48 (mn 5) ((xS J o) (mn 5)) (b.ob 1)) (h2 : opPre (DA f b noN) 48 (mn 4) ((xS J o) (mn 4)) (b.ob 2)) : AllP (needE (DA f b noN) 48 (xS J o) comE) :=
  ⟨⟨b.lL, rfl, show b.lL ≤ (f 5).2 by have := h.2; omega⟩, ⟨b.H, rfl, show b.H ≤ (f 4).2 by have := h.1; omega⟩, h2, h1, trivial⟩
theorem need_hp0 (h : RmHp f J) : AllP (needE (DA f b noN) 48 (xS J o) hp0) :=
  ⟨show 0 + 1 ≤ (f 8).2 by have := h.1; omega, rfl, h.1, show 0 + 1 ≤ (f 12).2 by have := h.2.1; omega, rfl, h.2.1, show 0 + 343 ≤ (f 14).2 by have := h.2.2.1; omega, h.2.2.2, rfl, h.2.2.1, trivial⟩
theorem need_hp1 (h : RmHp f J) : AllP (needE (DA f b noN) 48 (xS J o) hp1) :=
  ⟨show 0 + 1 ≤ (f 8).2 by have := h.1; omega, rfl, h.1, show 0 + 1 ≤ (f 12).2 by have := h.2.1; omega, rfl, h.2.1, show 0 + 343 ≤ (f 14).2 by have := h.2.2.1; omega, h.2.2.2, rfl, h.2.2.1, trivial⟩
theorem need_netN (h4 : opPre (DA f b noN) 48 (mn 17) ((xS J o) (mn 17)) (b.ob 4)) (h5 : opPre (DA f b noN) 48 (mn 18) ((xS J o) (mn 18)) (b.ob 5)) : AllP (needE (DA f b noN) 48 (xS J o) netN) := ⟨h4, h5, trivial⟩
theorem need_netR (h : b.lR ≤ (f 16).2) (h3 : opPre (DA f b noN) 48 (mn 16) ((xS J o) (mn 16)) (b.ob 3)) (h4 : opPre (DA f b noN) 48 (mn 17) ((xS J o) (mn 17)) (b.ob 4)) (h5 : opPre (DA f b noN) 48 (mn 18) ((xS J o) (mn 18)) (b.ob 5)) : AllP (needE (DA f b noN) 48 (xS J o) netR) := ⟨⟨b.lR, rfl, h⟩, h3, h4, h5, trivial⟩
theorem need_h0n (h : RmH0 f J) : AllP (needE (DA f b noN) 48 (xS J o) h0n) :=
  ⟨show 0 + 2 ≤ (f 22).2 by have := h.1; omega, rfl, h.1, show 0 + 1 ≤ (f 25).2 by have := h.2; omega, rfl, h.2, trivial⟩
theorem need_h0a (h : RmH0 f J) : AllP (needE (DA f b noN) 48 (xS J o) h0a) :=
  ⟨show 0 + 2 ≤ (f 22).2 by have := h.1; omega, rfl, h.1, show 0 + 1 ≤ (f 25).2 by have := h.2; omega, rfl, h.2, trivial⟩
theorem need_h0r (h : RmH0 f J) (g : RmT0 f J .row) : AllP (needE (DA f b noN) 48 (xS J o) h0r) :=
  ⟨Nat.zero_le _, show 0 + 2 ≤ (f 22).2 by have := h.1; omega, rfl, h.1, show 0 + 1 ≤ (f 25).2 by have := h.2; omega, rfl, h.2, rfl, g, trivial⟩
theorem need_rgN : AllP (needE (DA f b noN) 48 (xS J o) rgN) := trivial
theorem need_rgO (h : (f 28).2 = b.lQ) (h7 : opPre (DA f b noN) 48 (mn 28) ((xS J o) (mn 28)) (b.ob 7)) : AllP (needE (DA f b noN) 48 (xS J o) rgO) := ⟨⟨b.lQ, rfl, show b.lQ ≤ (f 28).2 by omega⟩, h7, trivial⟩
end
section
variable {f : Nat → Nat × Nat} {b : Bs} {e : Nm → Nat × Nat} {x : Nm → Xt} {n : Nm} {i t r m : Nat}
theorem de_row {ks : List S} {vs : List Value} (ho : b.ob i = .c t (r + 1) m ks) (hk : ks.map (deS (DA f b e)) = vs) : deE (DA f b e) x (n, .op i) = ((adX (adl f) e n).1, cel t (vs ++ (x n).1)) := by
  show (_, deB (DA f b e) (x n) (b.ob i)) = _
  rw [ho, ← hk]; rfl
theorem de_row0 {ks : List S} {vs : List Value} (ho : b.ob i = .c t 0 m ks) (hk : ks.map (deS (DA f b e)) = vs) : deE (DA f b e) x (n, .op i) = ((adX (adl f) e n).1, cel t vs) := by
  show (_, deB (DA f b e) (x n) (b.ob i)) = _
  rw [ho, ← hk]; rfl
theorem de_sent {l : List Rd3} {c : Nat} (ho : b.ob i = .m (l.map sentS) c) : deE (DA f b e) x (n, .op i) = ((adX (adl f) e n).1, .map (l.map sentV).toArray c) := by
  show (_, deB (DA f b e) (x n) (b.ob i)) = _
  rw [ho]
  show (_, Obj.map ((l.map sentS).map _).toArray c) = _
  rw [List.map_map]; rfl
theorem de_came {l : List Rd3} {c : Nat} (ho : b.ob i = .m (l.map cameS) c) : deE (DA f b e) x (n, .op i) = ((adX (adl f) e n).1, .map (l.map cameV).toArray c) := by
  show (_, deB (DA f b e) (x n) (b.ob i)) = _
  rw [ho]
  show (_, Obj.map ((l.map cameS).map _).toArray c) = _
  rw [List.map_map]; rfl
end
theorem fn_sent (l : List Rd3) (c : Nat) : fnB (.m (l.map sentS) c) = true := by
  show ((l.map sentS).all fun e => fnA e.1 && fnA e.2.1) = true
  rw [List.all_map]; exact List.all_eq_true.2 fun e _ => rfl
theorem fn_came (l : List Rd3) (c : Nat) : fnB (.m (l.map cameS) c) = true := by
  show ((l.map cameS).all fun e => fnA e.1 && fnA e.2.1) = true
  rw [List.all_map]; exact List.all_eq_true.2 fun e _ => rfl
theorem needM_sent (D : Dt) : ∀ (l : List Rd3), needM D (l.map sentS) = []
  | [] => rfl
  | e :: l => by show [] ++ ([] ++ needM D (l.map sentS)) = []; rw [needM_sent D l]; rfl
theorem needM_came (D : Dt) : ∀ (l : List Rd3), needM D (l.map cameS) = []
  | [] => rfl
  | e :: l => by show [] ++ ([] ++ needM D (l.map cameS)) = []; rw [needM_came D l]; rfl
theorem op_sent {D : Dt} {n : Nm} {x : Xt} {l : List Rd3} {c : Nat} : opPre D 48 n x (.m (l.map sentS) c) :=
  ⟨fun e he => by obtain ⟨r, _, rfl⟩ := List.mem_map.1 he; exact ⟨rfl, rfl⟩, by rw [needM_sent]; trivial⟩
theorem op_came {D : Dt} {n : Nm} {x : Xt} {l : List Rd3} {c : Nat} : opPre D 48 n x (.m (l.map cameS) c) :=
  ⟨fun e he => by obtain ⟨r, _, rfl⟩ := List.mem_map.1 he; exact ⟨rfl, rfl⟩, by rw [needM_came]; trivial⟩
theorem inf_at {D : Dt} {z : Nm → Xt} : ∀ {es : List (Nm × O)} {i : Nat} {p : Nm × O}, AllP (infE D z es) → es[i]? = some p → AllP (infO D p.1 (z p.1) p.2)
  | [], i, p, _, h => by simp at h
  | q :: es, 0, p, hI, h => by
    have : q = p := by simpa using h
    subst this
    exact (AllP.app.1 hI).1
  | q :: es, i + 1, p, hI, h => inf_at (es := es) (i := i) (AllP.app.1 hI).2 (by simpa using h)
theorem inf_op {D : Dt} {z : Nm → Xt} {es : List (Nm × O)} (i : Nat) (n : Nm) (k t r m : Nat) {ks : List S} (hI : AllP (infE D z es)) (hi : es[i]? = some (n, .op k)) (ho : D.tk.ob k = .c t (r + 1) m ks) (hl : ks.length = m * (r + 1)) : m * (r + 1) + (z n).1.length = (D.ad n).2 * (r + 1) := by
  have h := inf_at hI hi
  have h2 : AllP (match D.tk.ob k with | .c t r m ks => [AllP (needL D ks), AllP (roomO D n (z n) (.c t r m ks))] | _ => []) := h
  rw [ho] at h2
  have h3 : ks.length + (z n).1.length = (D.ad n).2 * (r + 1) := h2.2.1.2.1
  omega
theorem inf_c {D : Dt} {z : Nm → Xt} {es : List (Nm × O)} (i : Nat) (n : Nm) {t r m : Nat} {ks : List S} (hI : AllP (infE D z es)) (hi : es[i]? = some (n, .c t (r + 1) m ks)) : ks.length + (z n).1.length = (D.ad n).2 * (r + 1) := by
  have h := inf_at hI hi
  exact ((AllP.app.1 h).2).2.1
end Go.Proofs.YtpcdcemcjbeajaaGreatDoor
end
