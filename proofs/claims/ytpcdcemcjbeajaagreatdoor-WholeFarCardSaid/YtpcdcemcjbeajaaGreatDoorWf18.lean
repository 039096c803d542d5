/- WholeFar: FarRa, FarRc, FarRb. -/
import Derived.Test.YtpcdcemcjbeajaaGreatDoorWf13
section
set_option linter.unusedVariables false
set_option linter.unusedSimpArgs false
set_option maxRecDepth 100000
namespace Go.Proofs.YtpcdcemcjbeajaaGreatDoor
open Go Go.RowKit
theorem r_c0n : chkG (.t [.s (rL 129 1), .s (iI 0)]) ((mn 0, .tb t_c0n) :: e1) (KA (.F 8 [.s (pP 1 0), actV 5 (tK 2) (iU 4294967298) (tK 3)] (setAll ((mn 0, .tb t_c0n) :: e0) (emp8 none)) (mn 48))) = true := by decide +kernel
theorem r_c0r : chkG (.t [.s (rL 129 1), .s (iI 0)]) ((mn 0, .tb t_c0r) :: e1) (KA (.F 8 [.s (pP 1 0), actV 5 (tK 2) (iU 4294967298) (tK 3)] (setAll ((mn 0, .tb t_c0r) :: e2) (emp8 none)) (mn 48))) = true := by decide +kernel
theorem r_c0b : chkG (.t [.s (xsn), .s (iI 9)]) ((mn 0, .tb t_c0b) :: e4) (KA (.F 8 [.s (pP 1 0), actV 5 (tK 2) (iU 4294967298) (tK 3)] (setAll ((mn 0, .tb t_c0b) :: e3) (emp8 none)) (mn 48))) = true := by decide +kernel
end Go.Proofs.YtpcdcemcjbeajaaGreatDoor
end
section
set_option linter.unusedVariables false
set_option linter.unusedSimpArgs false
set_option maxRecDepth 100000
namespace Go.Proofs.YtpcdcemcjbeajaaGreatDoor
open Go Go.RowKit
theorem r_s0nn : chkG (.t [.s (xsn), .s (iI 12)]) ((mn 0, .tb t_s0nn) :: e62) (KA (.F 8 [.s (pP 1 0), actV 21 (tK 2) (iU 0) (tK 3)] (setAll ((mn 0, .tb t_s0nn) :: e61) (emp8 none)) (mn 48))) = true := by decide +kernel
theorem r_s0mn : chkG (.t [.s (xsn), .s (iI 12)]) ((mn 0, .tb t_s0mn) :: e64) (KA (.F 8 [.s (pP 1 0), actV 21 (tK 2) (iU 0) (tK 3)] (setAll ((mn 0, .tb t_s0mn) :: e63) (emp8 none)) (mn 48))) = true := by decide +kernel
theorem r_s0dn : chkG (.t [.s (xsn), .s (iI 0)]) ((mn 0, .tb t_s0dn) :: e66) (KA (.F 8 [.s (pP 1 0), actV 21 (tK 2) (iU 0) (tK 3)] (setAll ((mn 0, .tb t_s0dn) :: e65) (emp8 none)) (mn 48))) = true := by decide +kernel
theorem r_s0nr : chkG (.t [.s (xsn), .s (iI 12)]) ((mn 0, .tb t_s0nr) :: e68) (KA (.F 8 [.s (pP 1 0), actV 21 (tK 2) (iU 0) (tK 3)] (setAll ((mn 0, .tb t_s0nr) :: e67) (emp8 none)) (mn 48))) = true := by decide +kernel
theorem r_s0mr : chkG (.t [.s (xsn), .s (iI 12)]) ((mn 0, .tb t_s0mr) :: e70) (KA (.F 8 [.s (pP 1 0), actV 21 (tK 2) (iU 0) (tK 3)] (setAll ((mn 0, .tb t_s0mr) :: e69) (emp8 none)) (mn 48))) = true := by decide +kernel
theorem r_s0dr : chkG (.t [.s (xsn), .s (iI 0)]) ((mn 0, .tb t_s0dr) :: e66) (KA (.F 8 [.s (pP 1 0), actV 21 (tK 2) (iU 0) (tK 3)] (setAll ((mn 0, .tb t_s0dr) :: e71) (emp8 none)) (mn 48))) = true := by decide +kernel
theorem r_s0ba : chkG (.t [.s (rL 103 1), .s (iI 0)]) ((mn 0, .tb t_s0ba) :: e73) (KA (.F 8 [.s (pP 1 0), actV 21 (tK 2) (iU 0) (tK 3)] (setAll ((mn 0, .tb t_s0ba) :: e72) (emp8 none)) (mn 48))) = true := by decide +kernel
theorem r_s0bp : chkG (.t [.s (rL 103 1), .s (iI 0)]) ((mn 0, .tb t_s0bp) :: e74) (KA (.F 8 [.s (pP 1 0), actV 21 (tK 2) (iU 0) (tK 3)] (setAll ((mn 0, .tb t_s0bp) :: e72) (emp8 none)) (mn 48))) = true := by decide +kernel
theorem r_s0co : chkG (.t [.s (rL 97 2), .s (iI 0)]) ((mn 0, .tb t_s0co) :: e76) (KA (.F 8 [.s (pP 1 0), actV 21 (tK 2) (iU 0) (tK 3)] (setAll ((mn 0, .tb t_s0co) :: e75) (emp8 none)) (mn 48))) = true := by decide +kernel
theorem r_s0cn : chkG (.t [.s (rL 97 2), .s (iI 0)]) ((mn 0, .tb t_s0cn) :: e78) (KA (.F 8 [.s (pP 1 0), actV 21 (tK 2) (iU 0) (tK 3)] (setAll ((mn 0, .tb t_s0cn) :: e77) (emp8 none)) (mn 48))) = true := by decide +kernel
theorem r_s0za : chkG (.t [.s (rL 103 1), .s (iI 0)]) ((mn 0, .tb t_s0za) :: e73) (KA (.F 8 [.s (pP 1 0), actV 21 (tK 2) (iU 0) (tK 3)] (setAll ((mn 0, .tb t_s0za) :: e72) (emp8 none)) (mn 48))) = true := by decide +kernel
theorem r_s0zp : chkG (.t [.s (rL 103 1), .s (iI 0)]) ((mn 0, .tb t_s0zp) :: e74) (KA (.F 8 [.s (pP 1 0), actV 21 (tK 2) (iU 0) (tK 3)] (setAll ((mn 0, .tb t_s0zp) :: e72) (emp8 none)) (mn 48))) = true := by decide +kernel
theorem r_s0cz : chkG (.t [.s (rL 97 2), .s (iI 0)]) ((mn 0, .tb t_s0cz) :: e76) (KA (.F 8 [.s (pP 1 0), actV 21 (tK 2) (iU 0) (tK 3)] (setAll ((mn 0, .tb t_s0cz) :: e75) (emp8 none)) (mn 48))) = true := by decide +kernel
end Go.Proofs.YtpcdcemcjbeajaaGreatDoor
end
section
set_option linter.unusedVariables false
set_option linter.unusedSimpArgs false
set_option maxRecDepth 100000
namespace Go.Proofs.YtpcdcemcjbeajaaGreatDoor
open Go Go.RowKit
theorem r_den : chkG (.t [.s (xsn), .s (iI 12)]) ((mn 0, .tb t_den) :: e26) (KA (.F 8 [.s (pP 1 0), actV 22 (iI 0) (iU 0) (tK 3)] (setAll ((mn 0, .tb t_den) :: e25) (emp8 none)) (mn 48))) = true := by decide +kernel
theorem r_der : chkG (.t [.s (xsn), .s (iI 12)]) ((mn 0, .tb t_der) :: e28) (KA (.F 8 [.s (pP 1 0), actV 22 (iI 0) (iU 0) (tK 3)] (setAll ((mn 0, .tb t_der) :: e27) (emp8 none)) (mn 48))) = true := by decide +kernel
end Go.Proofs.YtpcdcemcjbeajaaGreatDoor
end
