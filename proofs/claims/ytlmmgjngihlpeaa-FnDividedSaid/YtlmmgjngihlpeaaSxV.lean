/- Functions. Printed by our own sx.py. -/
import Derived.Test.YtlmmgjngihlpeaaSxV1
namespace Go.Proofs.Ytlmmgjngihlpeaa.Sx
open Go
set_option linter.unusedVariables false
set_option maxRecDepth 100000
/-! ### g3: laws.FnDivided -/
def g3b {α : Type} (G_g10 : {α : Type} → Nat → Nat → Nat → Nat → (List Int) → (Bool → Option α) → Option α) (G_g11 : {α : Type} → Nat → Nat → Nat → Nat → (List Int) → (Bool → (List Int) → Option α) → Option α) (G_g12 : {α : Type} → Nat → Nat → Nat → Nat → (List Int) → (Bool → (List Int) → Option α) → Option α) (G_g13 : {α : Type} → Bool → (List Int) → Bool → (List Int) → (Bool → (List Int) → Bool → (List Int) → Int → Option α) → Option α) (G_g14 : {α : Type} → Bool → (List Int) → Bool → (List Int) → (Bool → (List Int) → Int → Option α) → Option α) (G_g15 : {α : Type} → Bool → (List Int) → Bool → (List Int) → (Bool → (List Int) → Bool → (List Int) → Int → Option α) → Option α) (G_g16 : {α : Type} → Bool → (List Int) → Bool → (List Int) → (Bool → (List Int) → Int → Option α) → Option α) (G_g17 : {α : Type} → Bool → (List Int) → Bool → (List Int) → (Bool → (List Int) → Int → Option α) → Option α) (G_g18 : {α : Type} → Bool → (List Int) → Bool → (List Int) → (Bool → (List Int) → Int → Option α) → Option α) (G_g19 : {α : Type} → Int → (Bool → (List Int) → Option α) → Option α) (G_g20 : {α : Type} → Bool → (List Int) → Bool → (List Int) → (Bool → (List Int) → Int → Option α) → Option α) (G_g21 : {α : Type} → Bool → (List Int) → Bool → (List Int) → (Int → Int → Option α) → Option α) (G_g22 : {α : Type} → Nat → Nat → Nat → Int → Nat → (List Int) → (Int → Option α) → Option α) (G_g23 : {α : Type} → Bool → (List Int) → Int → (Bool → (List Int) → Int → Option α) → Option α) (G_g24 : {α : Type} → Bool → (List Int) → Int → (Bool → (List Int) → Int → Option α) → Option α) (G_g25 : {α : Type} → Bool → (List Int) → Int → (Bool → (List Int) → Int → Option α) → Option α) (G_g26 : {α : Type} → Bool → (List Int) → Bool → (List Int) → (Bool → (List Int) → Int → Option α) → Option α) (G_g27 : {α : Type} → Bool → (List Int) → (Bool → (List Int) → Int → Option α) → Option α) (G_g28 : {α : Type} → Bool → (List Int) → Bool → (List Int) → (Int → Int → Option α) → Option α) (G_g29 : {α : Type} → Bool → (List Int) → Bool → (List Int) → (Bool → (List Int) → Int → Option α) → Option α)  (m1 : Nat) (m2 : Nat) (m3 : Nat) (m4 : Nat) (m5 : Nat) (m6 : Nat) (m7 : Nat) (u8 : List Int) (m9 : Nat) (u10 : List Int) (k2057 : Bool → Option α) : Option α :=
  G_g10 m1 m2 m3 m7 u8
    (fun b18 =>
      cond b18
       (
        k2057 true)
       (
        G_g10 m4 m5 m6 m9 u10
        (fun b19 =>
        cond b19
        (
        k2057 true)
        (
        G_g11 m1 m2 m3 m7 u8
        (fun b167 l168 =>
        G_g12 m4 m5 m6 m9 u10
        (fun b184 l185 =>
        cond ((b184 == false) && (eqLI l185 [0, 0, 0, 0, 0, 0]))
        (
        G_g13 b167 l168 b184 l185
        (fun b633 l634 b635 l636 x637 =>
        G_g14 b167 l168 b184 l185
        (fun b709 l710 x711 =>
        cond (x637 == (4 : Int))
        (
        k2057 (x711 == (4 : Int)))
        (
        k2057 false))))
        (
        G_g13 b167 l168 b184 l185
        (fun b714 l715 b716 l717 x718 =>
        G_g15 b167 l168 b184 l185
        (fun b932 l933 b934 l935 x936 =>
        G_g14 b167 l168 b184 l185
        (fun b937 l938 x939 =>
        cond (x718 != x936)
        (
        k2057 false)
        (
        cond (x718 != (0 : Int))
        (
        k2057 false)
        (
        cond (!((b714 == b932) && (eqLI l715 l933)))
        (
        k2057 false)
        (
        cond (!((b716 == b934) && (eqLI l717 l935)))
        (
        k2057 false)
        (
        cond (x939 != (0 : Int))
        (
        k2057 false)
        (
        G_g16 b932 l933 b184 l185
        (fun b1034 l1035 x1036 =>
        cond (x1036 == (0 : Int))
        (
        G_g17 b1034 l1035 b934 l935
        (fun b1053 l1054 x1055 =>
        cond (x1055 != (0 : Int))
        (
        k2057 false)
        (
        cond (!((b1053 == b167) && (eqLI l1054 l168)))
        (
        k2057 false)
        (
        G_g18 b937 l938 b932 l933
        (fun b1088 l1089 x1090 =>
        cond (x1090 != (0 : Int))
        (
        k2057 false)
        (
        G_g19 (0 : Int)
        (fun b1092 l1093 =>
        cond (!((b1088 == b1092) && (eqLI l1089 l1093)))
        (
        G_g19 (1 : Int)
        (fun b1095 l1096 =>
        cond (!((b1088 == b1095) && (eqLI l1089 l1096)))
        (
        k2057 false)
        (
        G_g20 b934 l935 b934 l935
        (fun b1126 l1127 x1128 =>
        G_g21 false l1127 false l185
        (fun x1155 x1156 =>
        cond (x1128 == (0 : Int))
        (
        cond (x1156 != (0 : Int))
        (
        k2057 false)
        (
        G_g19 (1 : Int)
        (fun b1160 l1161 =>
        cond (!((decide (x1155 ≥ (0 : Int))) == ((b1088 == b1160) && (eqLI l1089 l1161))))
        (
        k2057 false)
        (
        G_g22 m4 m5 m6 (60 : Int) m9 u10
        (fun x1174 =>
        G_g12 m1 m2 m3 m7 u8
        (fun b1175 l1176 =>
        G_g23 b1175 l1176 x1174
        (fun b1208 l1209 x1210 =>
        G_g24 b1208 l1209 x1174
        (fun b1252 l1253 x1254 =>
        G_g19 (2 : Int)
        (fun b1255 l1256 =>
        G_g25 b1255 l1256 x1174
        (fun b1288 l1289 x1290 =>
        G_g16 b1175 l1176 b1288 l1289
        (fun b1291 l1292 x1293 =>
        G_g24 b1175 l1176 x1174
        (fun b1294 l1295 x1296 =>
        G_g26 b1175 l1176 b1288 l1289
        (fun b1346 l1347 x1348 =>
        cond (x1210 != (0 : Int))
        (
        k2057 false)
        (
        cond (x1254 != (0 : Int))
        (
        k2057 false)
        (
        cond (!((b1252 == b1175) && (eqLI l1253 l1176)))
        (
        k2057 false)
        (
        cond (x1290 != (0 : Int))
        (
        k2057 false)
        (
        cond (x1293 != (0 : Int))
        (
        k2057 false)
        (
        cond (!((b1291 == b1208) && (eqLI l1292 l1209)))
        (
        k2057 false)
        (
        cond (x1296 != (0 : Int))
        (
        k2057 false)
        (
        cond (x1348 != (0 : Int))
        (
        k2057 false)
        (
        cond (!((b1294 == b1346) && (eqLI l1295 l1347)))
        (
        k2057 false)
        (
        G_g27 false l1176
        (fun b1390 l1391 x1392 =>
        G_g16 b1390 l1391 b1390 l1391
        (fun b1393 l1394 x1395 =>
        G_g19 (1 : Int)
        (fun b1396 l1397 =>
        G_g17 b1390 l1391 b1396 l1397
        (fun b1398 l1399 x1400 =>
        G_g16 b1398 l1399 b1398 l1399
        (fun b1401 l1402 x1403 =>
        G_g28 b1393 l1394 false l1176
        (fun x1426 x1427 =>
        G_g28 b1401 l1402 false l1176
        (fun x1428 x1429 =>
        G_g29 b1175 l1176 b184 l185
        (fun b1453 l1454 x1455 =>
        G_g13 b1175 l1176 b1453 l1454
        (fun b1456 l1457 b1458 l1459 x1460 =>
        G_g13 b184 l185 b1453 l1454
        (fun b1461 l1462 b1463 l1464 x1465 =>
        cond (x1392 == (0 : Int))
        (
        cond (x1395 == (0 : Int))
        (
        cond (x1400 == (0 : Int))
        (
        cond (x1403 == (0 : Int))
        (
        cond (x1427 == (0 : Int))
        (
        cond (decide (x1426 ≤ (0 : Int)))
        (
        cond (x1429 == (0 : Int))
        (
        cond (decide (x1428 > (0 : Int)))
        (
        cond (x1455 == (0 : Int))
        (
        cond (x1460 == (0 : Int))
        (
        cond ((b1458 == false) && (eqLI l1459 [0, 0, 0, 0, 0, 0]))
        (
        cond (x1465 == (0 : Int))
        (
        k2057 ((b1463 == false) && (eqLI l1464 [0, 0, 0, 0, 0, 0])))
        (
        k2057 false))
        (
        k2057 false))
        (
        k2057 false))
        (
        k2057 false))
        (
        k2057 false))
        (
        k2057 false))
        (
        k2057 false))
        (
        k2057 false))
        (
        k2057 false))
        (
        k2057 false))
        (
        k2057 false))
        (
        k2057 false)))))))))))))))))))))))))))))))))
        (
        G_g22 m4 m5 m6 (60 : Int) m9 u10
        (fun x1479 =>
        G_g12 m1 m2 m3 m7 u8
        (fun b1480 l1481 =>
        G_g23 b1480 l1481 x1479
        (fun b1482 l1483 x1484 =>
        G_g24 b1482 l1483 x1479
        (fun b1485 l1486 x1487 =>
        G_g19 (2 : Int)
        (fun b1488 l1489 =>
        G_g25 b1488 l1489 x1479
        (fun b1490 l1491 x1492 =>
        G_g16 b1480 l1481 b1490 l1491
        (fun b1493 l1494 x1495 =>
        G_g24 b1480 l1481 x1479
        (fun b1496 l1497 x1498 =>
        G_g26 b1480 l1481 b1490 l1491
        (fun b1499 l1500 x1501 =>
        cond (x1484 != (0 : Int))
        (
        k2057 false)
        (
        cond (x1487 != (0 : Int))
        (
        k2057 false)
        (
        cond (!((b1485 == b1480) && (eqLI l1486 l1481)))
        (
        k2057 false)
        (
        cond (x1492 != (0 : Int))
        (
        k2057 false)
        (
        cond (x1495 != (0 : Int))
        (
        k2057 false)
        (
        cond (!((b1493 == b1482) && (eqLI l1494 l1483)))
        (
        k2057 false)
        (
        cond (x1498 != (0 : Int))
        (
        k2057 false)
        (
        cond (x1501 != (0 : Int))
        (
        k2057 false)
        (
        cond (!((b1496 == b1499) && (eqLI l1497 l1500)))
        (
        k2057 false)
        (
        G_g27 false l1481
        (fun b1511 l1512 x1513 =>
        G_g16 b1511 l1512 b1511 l1512
        (fun b1514 l1515 x1516 =>
        G_g19 (1 : Int)
        (fun b1517 l1518 =>
        G_g17 b1511 l1512 b1517 l1518
        (fun b1519 l1520 x1521 =>
        G_g16 b1519 l1520 b1519 l1520
        (fun b1522 l1523 x1524 =>
        G_g28 b1514 l1515 false l1481
        (fun x1525 x1526 =>
        G_g28 b1522 l1523 false l1481
        (fun x1527 x1528 =>
        G_g29 b1480 l1481 b184 l185
        (fun b1529 l1530 x1531 =>
        G_g13 b1480 l1481 b1529 l1530
        (fun b1532 l1533 b1534 l1535 x1536 =>
        G_g13 b184 l185 b1529 l1530
        (fun b1537 l1538 b1539 l1540 x1541 =>
        cond (x1513 == (0 : Int))
        (
        cond (x1516 == (0 : Int))
        (
        cond (x1521 == (0 : Int))
        (
        cond (x1524 == (0 : Int))
        (
        cond (x1526 == (0 : Int))
        (
        cond (decide (x1525 ≤ (0 : Int)))
        (
        cond (x1528 == (0 : Int))
        (
        cond (decide (x1527 > (0 : Int)))
        (
        cond (x1531 == (0 : Int))
        (
        cond (x1536 == (0 : Int))
        (
        cond ((b1534 == false) && (eqLI l1535 [0, 0, 0, 0, 0, 0]))
        (
        cond (x1541 == (0 : Int))
        (
        k2057 ((b1539 == false) && (eqLI l1540 [0, 0, 0, 0, 0, 0])))
        (
        k2057 false))
        (
        k2057 false))
        (
        k2057 false))
        (
        k2057 false))
        (
        k2057 false))
        (
        k2057 false))
        (
        k2057 false))
        (
        k2057 false))
        (
        k2057 false))
        (
        k2057 false))
        (
        k2057 false))
        (
        k2057 false)))))))))))))))))))))))))))))))))))
        (
        G_g20 b934 l935 b934 l935
        (fun b1555 l1556 x1557 =>
        G_g21 false l1556 false l185
        (fun x1558 x1559 =>
        cond (x1557 == (0 : Int))
        (
        cond (x1559 != (0 : Int))
        (
        k2057 false)
        (
        G_g19 (1 : Int)
        (fun b1563 l1564 =>
        cond (!((decide (x1558 ≥ (0 : Int))) == ((b1088 == b1563) && (eqLI l1089 l1564))))
        (
        k2057 false)
        (
        G_g22 m4 m5 m6 (60 : Int) m9 u10
        (fun x1567 =>
        G_g12 m1 m2 m3 m7 u8
        (fun b1568 l1569 =>
        G_g23 b1568 l1569 x1567
        (fun b1570 l1571 x1572 =>
        G_g24 b1570 l1571 x1567
        (fun b1573 l1574 x1575 =>
        G_g19 (2 : Int)
        (fun b1576 l1577 =>
        G_g25 b1576 l1577 x1567
        (fun b1578 l1579 x1580 =>
        G_g16 b1568 l1569 b1578 l1579
        (fun b1581 l1582 x1583 =>
        G_g24 b1568 l1569 x1567
        (fun b1584 l1585 x1586 =>
        G_g26 b1568 l1569 b1578 l1579
        (fun b1587 l1588 x1589 =>
        cond (x1572 != (0 : Int))
        (
        k2057 false)
        (
        cond (x1575 != (0 : Int))
        (
        k2057 false)
        (
        cond (!((b1573 == b1568) && (eqLI l1574 l1569)))
        (
        k2057 false)
        (
        cond (x1580 != (0 : Int))
        (
        k2057 false)
        (
        cond (x1583 != (0 : Int))
        (
        k2057 false)
        (
        cond (!((b1581 == b1570) && (eqLI l1582 l1571)))
        (
        k2057 false)
        (
        cond (x1586 != (0 : Int))
        (
        k2057 false)
        (
        cond (x1589 != (0 : Int))
        (
        k2057 false)
        (
        cond (!((b1584 == b1587) && (eqLI l1585 l1588)))
        (
        k2057 false)
        (
        G_g27 false l1569
        (fun b1599 l1600 x1601 =>
        G_g16 b1599 l1600 b1599 l1600
        (fun b1602 l1603 x1604 =>
        G_g19 (1 : Int)
        (fun b1605 l1606 =>
        G_g17 b1599 l1600 b1605 l1606
        (fun b1607 l1608 x1609 =>
        G_g16 b1607 l1608 b1607 l1608
        (fun b1610 l1611 x1612 =>
        G_g28 b1602 l1603 false l1569
        (fun x1613 x1614 =>
        G_g28 b1610 l1611 false l1569
        (fun x1615 x1616 =>
        G_g29 b1568 l1569 b184 l185
        (fun b1617 l1618 x1619 =>
        G_g13 b1568 l1569 b1617 l1618
        (fun b1620 l1621 b1622 l1623 x1624 =>
        G_g13 b184 l185 b1617 l1618
        (fun b1625 l1626 b1627 l1628 x1629 =>
        cond (x1601 == (0 : Int))
        (
        cond (x1604 == (0 : Int))
        (
        cond (x1609 == (0 : Int))
        (
        cond (x1612 == (0 : Int))
        (
        cond (x1614 == (0 : Int))
        (
        cond (decide (x1613 ≤ (0 : Int)))
        (
        cond (x1616 == (0 : Int))
        (
        cond (decide (x1615 > (0 : Int)))
        (
        cond (x1619 == (0 : Int))
        (
        cond (x1624 == (0 : Int))
        (
        cond ((b1622 == false) && (eqLI l1623 [0, 0, 0, 0, 0, 0]))
        (
        cond (x1629 == (0 : Int))
        (
        k2057 ((b1627 == false) && (eqLI l1628 [0, 0, 0, 0, 0, 0])))
        (
        k2057 false))
        (
        k2057 false))
        (
        k2057 false))
        (
        k2057 false))
        (
        k2057 false))
        (
        k2057 false))
        (
        k2057 false))
        (
        k2057 false))
        (
        k2057 false))
        (
        k2057 false))
        (
        k2057 false))
        (
        k2057 false)))))))))))))))))))))))))))))))))
        (
        G_g22 m4 m5 m6 (60 : Int) m9 u10
        (fun x1643 =>
        G_g12 m1 m2 m3 m7 u8
        (fun b1644 l1645 =>
        G_g23 b1644 l1645 x1643
        (fun b1646 l1647 x1648 =>
        G_g24 b1646 l1647 x1643
        (fun b1649 l1650 x1651 =>
        G_g19 (2 : Int)
        (fun b1652 l1653 =>
        G_g25 b1652 l1653 x1643
        (fun b1654 l1655 x1656 =>
        G_g16 b1644 l1645 b1654 l1655
        (fun b1657 l1658 x1659 =>
        G_g24 b1644 l1645 x1643
        (fun b1660 l1661 x1662 =>
        G_g26 b1644 l1645 b1654 l1655
        (fun b1663 l1664 x1665 =>
        cond (x1648 != (0 : Int))
        (
        k2057 false)
        (
        cond (x1651 != (0 : Int))
        (
        k2057 false)
        (
        cond (!((b1649 == b1644) && (eqLI l1650 l1645)))
        (
        k2057 false)
        (
        cond (x1656 != (0 : Int))
        (
        k2057 false)
        (
        cond (x1659 != (0 : Int))
        (
        k2057 false)
        (
        cond (!((b1657 == b1646) && (eqLI l1658 l1647)))
        (
        k2057 false)
        (
        cond (x1662 != (0 : Int))
        (
        k2057 false)
        (
        cond (x1665 != (0 : Int))
        (
        k2057 false)
        (
        cond (!((b1660 == b1663) && (eqLI l1661 l1664)))
        (
        k2057 false)
        (
        G_g27 false l1645
        (fun b1675 l1676 x1677 =>
        G_g16 b1675 l1676 b1675 l1676
        (fun b1678 l1679 x1680 =>
        G_g19 (1 : Int)
        (fun b1681 l1682 =>
        G_g17 b1675 l1676 b1681 l1682
        (fun b1683 l1684 x1685 =>
        G_g16 b1683 l1684 b1683 l1684
        (fun b1686 l1687 x1688 =>
        G_g28 b1678 l1679 false l1645
        (fun x1689 x1690 =>
        G_g28 b1686 l1687 false l1645
        (fun x1691 x1692 =>
        G_g29 b1644 l1645 b184 l185
        (fun b1693 l1694 x1695 =>
        G_g13 b1644 l1645 b1693 l1694
        (fun b1696 l1697 b1698 l1699 x1700 =>
        G_g13 b184 l185 b1693 l1694
        (fun b1701 l1702 b1703 l1704 x1705 =>
        cond (x1677 == (0 : Int))
        (
        cond (x1680 == (0 : Int))
        (
        cond (x1685 == (0 : Int))
        (
        cond (x1688 == (0 : Int))
        (
        cond (x1690 == (0 : Int))
        (
        cond (decide (x1689 ≤ (0 : Int)))
        (
        cond (x1692 == (0 : Int))
        (
        cond (decide (x1691 > (0 : Int)))
        (
        cond (x1695 == (0 : Int))
        (
        cond (x1700 == (0 : Int))
        (
        cond ((b1698 == false) && (eqLI l1699 [0, 0, 0, 0, 0, 0]))
        (
        cond (x1705 == (0 : Int))
        (
        k2057 ((b1703 == false) && (eqLI l1704 [0, 0, 0, 0, 0, 0])))
        (
        k2057 false))
        (
        k2057 false))
        (
        k2057 false))
        (
        k2057 false))
        (
        k2057 false))
        (
        k2057 false))
        (
        k2057 false))
        (
        k2057 false))
        (
        k2057 false))
        (
        k2057 false))
        (
        k2057 false))
        (
        k2057 false))))))))))))))))))))))))))))))))))))))))
        (
        G_g18 b937 l938 b932 l933
        (fun b1719 l1720 x1721 =>
        cond (x1721 != (0 : Int))
        (
        k2057 false)
        (
        G_g19 (0 : Int)
        (fun b1723 l1724 =>
        cond (!((b1719 == b1723) && (eqLI l1720 l1724)))
        (
        G_g19 (1 : Int)
        (fun b1726 l1727 =>
        cond (!((b1719 == b1726) && (eqLI l1720 l1727)))
        (
        k2057 false)
        (
        G_g20 b934 l935 b934 l935
        (fun b1729 l1730 x1731 =>
        G_g21 false l1730 false l185
        (fun x1732 x1733 =>
        cond (x1731 == (0 : Int))
        (
        cond (x1733 != (0 : Int))
        (
        k2057 false)
        (
        G_g19 (1 : Int)
        (fun b1737 l1738 =>
        cond (!((decide (x1732 ≥ (0 : Int))) == ((b1719 == b1737) && (eqLI l1720 l1738))))
        (
        k2057 false)
        (
        G_g22 m4 m5 m6 (60 : Int) m9 u10
        (fun x1741 =>
        G_g12 m1 m2 m3 m7 u8
        (fun b1742 l1743 =>
        G_g23 b1742 l1743 x1741
        (fun b1744 l1745 x1746 =>
        G_g24 b1744 l1745 x1741
        (fun b1747 l1748 x1749 =>
        G_g19 (2 : Int)
        (fun b1750 l1751 =>
        G_g25 b1750 l1751 x1741
        (fun b1752 l1753 x1754 =>
        G_g16 b1742 l1743 b1752 l1753
        (fun b1755 l1756 x1757 =>
        G_g24 b1742 l1743 x1741
        (fun b1758 l1759 x1760 =>
        G_g26 b1742 l1743 b1752 l1753
        (fun b1761 l1762 x1763 =>
        cond (x1746 != (0 : Int))
        (
        k2057 false)
        (
        cond (x1749 != (0 : Int))
        (
        k2057 false)
        (
        cond (!((b1747 == b1742) && (eqLI l1748 l1743)))
        (
        k2057 false)
        (
        cond (x1754 != (0 : Int))
        (
        k2057 false)
        (
        cond (x1757 != (0 : Int))
        (
        k2057 false)
        (
        cond (!((b1755 == b1744) && (eqLI l1756 l1745)))
        (
        k2057 false)
        (
        cond (x1760 != (0 : Int))
        (
        k2057 false)
        (
        cond (x1763 != (0 : Int))
        (
        k2057 false)
        (
        cond (!((b1758 == b1761) && (eqLI l1759 l1762)))
        (
        k2057 false)
        (
        G_g27 false l1743
        (fun b1773 l1774 x1775 =>
        G_g16 b1773 l1774 b1773 l1774
        (fun b1776 l1777 x1778 =>
        G_g19 (1 : Int)
        (fun b1779 l1780 =>
        G_g17 b1773 l1774 b1779 l1780
        (fun b1781 l1782 x1783 =>
        G_g16 b1781 l1782 b1781 l1782
        (fun b1784 l1785 x1786 =>
        G_g28 b1776 l1777 false l1743
        (fun x1787 x1788 =>
        G_g28 b1784 l1785 false l1743
        (fun x1789 x1790 =>
        G_g29 b1742 l1743 b184 l185
        (fun b1791 l1792 x1793 =>
        G_g13 b1742 l1743 b1791 l1792
        (fun b1794 l1795 b1796 l1797 x1798 =>
        G_g13 b184 l185 b1791 l1792
        (fun b1799 l1800 b1801 l1802 x1803 =>
        cond (x1775 == (0 : Int))
        (
        cond (x1778 == (0 : Int))
        (
        cond (x1783 == (0 : Int))
        (
        cond (x1786 == (0 : Int))
        (
        cond (x1788 == (0 : Int))
        (
        cond (decide (x1787 ≤ (0 : Int)))
        (
        cond (x1790 == (0 : Int))
        (
        cond (decide (x1789 > (0 : Int)))
        (
        cond (x1793 == (0 : Int))
        (
        cond (x1798 == (0 : Int))
        (
        cond ((b1796 == false) && (eqLI l1797 [0, 0, 0, 0, 0, 0]))
        (
        cond (x1803 == (0 : Int))
        (
        k2057 ((b1801 == false) && (eqLI l1802 [0, 0, 0, 0, 0, 0])))
        (
        k2057 false))
        (
        k2057 false))
        (
        k2057 false))
        (
        k2057 false))
        (
        k2057 false))
        (
        k2057 false))
        (
        k2057 false))
        (
        k2057 false))
        (
        k2057 false))
        (
        k2057 false))
        (
        k2057 false))
        (
        k2057 false)))))))))))))))))))))))))))))))))
        (
        G_g22 m4 m5 m6 (60 : Int) m9 u10
        (fun x1817 =>
        G_g12 m1 m2 m3 m7 u8
        (fun b1818 l1819 =>
        G_g23 b1818 l1819 x1817
        (fun b1820 l1821 x1822 =>
        G_g24 b1820 l1821 x1817
        (fun b1823 l1824 x1825 =>
        G_g19 (2 : Int)
        (fun b1826 l1827 =>
        G_g25 b1826 l1827 x1817
        (fun b1828 l1829 x1830 =>
        G_g16 b1818 l1819 b1828 l1829
        (fun b1831 l1832 x1833 =>
        G_g24 b1818 l1819 x1817
        (fun b1834 l1835 x1836 =>
        G_g26 b1818 l1819 b1828 l1829
        (fun b1837 l1838 x1839 =>
        cond (x1822 != (0 : Int))
        (
        k2057 false)
        (
        cond (x1825 != (0 : Int))
        (
        k2057 false)
        (
        cond (!((b1823 == b1818) && (eqLI l1824 l1819)))
        (
        k2057 false)
        (
        cond (x1830 != (0 : Int))
        (
        k2057 false)
        (
        cond (x1833 != (0 : Int))
        (
        k2057 false)
        (
        cond (!((b1831 == b1820) && (eqLI l1832 l1821)))
        (
        k2057 false)
        (
        cond (x1836 != (0 : Int))
        (
        k2057 false)
        (
        cond (x1839 != (0 : Int))
        (
        k2057 false)
        (
        cond (!((b1834 == b1837) && (eqLI l1835 l1838)))
        (
        k2057 false)
        (
        G_g27 false l1819
        (fun b1849 l1850 x1851 =>
        G_g16 b1849 l1850 b1849 l1850
        (fun b1852 l1853 x1854 =>
        G_g19 (1 : Int)
        (fun b1855 l1856 =>
        G_g17 b1849 l1850 b1855 l1856
        (fun b1857 l1858 x1859 =>
        G_g16 b1857 l1858 b1857 l1858
        (fun b1860 l1861 x1862 =>
        G_g28 b1852 l1853 false l1819
        (fun x1863 x1864 =>
        G_g28 b1860 l1861 false l1819
        (fun x1865 x1866 =>
        G_g29 b1818 l1819 b184 l185
        (fun b1867 l1868 x1869 =>
        G_g13 b1818 l1819 b1867 l1868
        (fun b1870 l1871 b1872 l1873 x1874 =>
        G_g13 b184 l185 b1867 l1868
        (fun b1875 l1876 b1877 l1878 x1879 =>
        cond (x1851 == (0 : Int))
        (
        cond (x1854 == (0 : Int))
        (
        cond (x1859 == (0 : Int))
        (
        cond (x1862 == (0 : Int))
        (
        cond (x1864 == (0 : Int))
        (
        cond (decide (x1863 ≤ (0 : Int)))
        (
        cond (x1866 == (0 : Int))
        (
        cond (decide (x1865 > (0 : Int)))
        (
        cond (x1869 == (0 : Int))
        (
        cond (x1874 == (0 : Int))
        (
        cond ((b1872 == false) && (eqLI l1873 [0, 0, 0, 0, 0, 0]))
        (
        cond (x1879 == (0 : Int))
        (
        k2057 ((b1877 == false) && (eqLI l1878 [0, 0, 0, 0, 0, 0])))
        (
        k2057 false))
        (
        k2057 false))
        (
        k2057 false))
        (
        k2057 false))
        (
        k2057 false))
        (
        k2057 false))
        (
        k2057 false))
        (
        k2057 false))
        (
        k2057 false))
        (
        k2057 false))
        (
        k2057 false))
        (
        k2057 false)))))))))))))))))))))))))))))))))))
        (
        G_g20 b934 l935 b934 l935
        (fun b1893 l1894 x1895 =>
        G_g21 false l1894 false l185
        (fun x1896 x1897 =>
        cond (x1895 == (0 : Int))
        (
        cond (x1897 != (0 : Int))
        (
        k2057 false)
        (
        G_g19 (1 : Int)
        (fun b1901 l1902 =>
        cond (!((decide (x1896 ≥ (0 : Int))) == ((b1719 == b1901) && (eqLI l1720 l1902))))
        (
        k2057 false)
        (
        G_g22 m4 m5 m6 (60 : Int) m9 u10
        (fun x1905 =>
        G_g12 m1 m2 m3 m7 u8
        (fun b1906 l1907 =>
        G_g23 b1906 l1907 x1905
        (fun b1908 l1909 x1910 =>
        G_g24 b1908 l1909 x1905
        (fun b1911 l1912 x1913 =>
        G_g19 (2 : Int)
        (fun b1914 l1915 =>
        G_g25 b1914 l1915 x1905
        (fun b1916 l1917 x1918 =>
        G_g16 b1906 l1907 b1916 l1917
        (fun b1919 l1920 x1921 =>
        G_g24 b1906 l1907 x1905
        (fun b1922 l1923 x1924 =>
        G_g26 b1906 l1907 b1916 l1917
        (fun b1925 l1926 x1927 =>
        cond (x1910 != (0 : Int))
        (
        k2057 false)
        (
        cond (x1913 != (0 : Int))
        (
        k2057 false)
        (
        cond (!((b1911 == b1906) && (eqLI l1912 l1907)))
        (
        k2057 false)
        (
        cond (x1918 != (0 : Int))
        (
        k2057 false)
        (
        cond (x1921 != (0 : Int))
        (
        k2057 false)
        (
        cond (!((b1919 == b1908) && (eqLI l1920 l1909)))
        (
        k2057 false)
        (
        cond (x1924 != (0 : Int))
        (
        k2057 false)
        (
        cond (x1927 != (0 : Int))
        (
        k2057 false)
        (
        cond (!((b1922 == b1925) && (eqLI l1923 l1926)))
        (
        k2057 false)
        (
        G_g27 false l1907
        (fun b1937 l1938 x1939 =>
        G_g16 b1937 l1938 b1937 l1938
        (fun b1940 l1941 x1942 =>
        G_g19 (1 : Int)
        (fun b1943 l1944 =>
        G_g17 b1937 l1938 b1943 l1944
        (fun b1945 l1946 x1947 =>
        G_g16 b1945 l1946 b1945 l1946
        (fun b1948 l1949 x1950 =>
        G_g28 b1940 l1941 false l1907
        (fun x1951 x1952 =>
        G_g28 b1948 l1949 false l1907
        (fun x1953 x1954 =>
        G_g29 b1906 l1907 b184 l185
        (fun b1955 l1956 x1957 =>
        G_g13 b1906 l1907 b1955 l1956
        (fun b1958 l1959 b1960 l1961 x1962 =>
        G_g13 b184 l185 b1955 l1956
        (fun b1963 l1964 b1965 l1966 x1967 =>
        cond (x1939 == (0 : Int))
        (
        cond (x1942 == (0 : Int))
        (
        cond (x1947 == (0 : Int))
        (
        cond (x1950 == (0 : Int))
        (
        cond (x1952 == (0 : Int))
        (
        cond (decide (x1951 ≤ (0 : Int)))
        (
        cond (x1954 == (0 : Int))
        (
        cond (decide (x1953 > (0 : Int)))
        (
        cond (x1957 == (0 : Int))
        (
        cond (x1962 == (0 : Int))
        (
        cond ((b1960 == false) && (eqLI l1961 [0, 0, 0, 0, 0, 0]))
        (
        cond (x1967 == (0 : Int))
        (
        k2057 ((b1965 == false) && (eqLI l1966 [0, 0, 0, 0, 0, 0])))
        (
        k2057 false))
        (
        k2057 false))
        (
        k2057 false))
        (
        k2057 false))
        (
        k2057 false))
        (
        k2057 false))
        (
        k2057 false))
        (
        k2057 false))
        (
        k2057 false))
        (
        k2057 false))
        (
        k2057 false))
        (
        k2057 false)))))))))))))))))))))))))))))))))
        (
        G_g22 m4 m5 m6 (60 : Int) m9 u10
        (fun x1981 =>
        G_g12 m1 m2 m3 m7 u8
        (fun b1982 l1983 =>
        G_g23 b1982 l1983 x1981
        (fun b1984 l1985 x1986 =>
        G_g24 b1984 l1985 x1981
        (fun b1987 l1988 x1989 =>
        G_g19 (2 : Int)
        (fun b1990 l1991 =>
        G_g25 b1990 l1991 x1981
        (fun b1992 l1993 x1994 =>
        G_g16 b1982 l1983 b1992 l1993
        (fun b1995 l1996 x1997 =>
        G_g24 b1982 l1983 x1981
        (fun b1998 l1999 x2000 =>
        G_g26 b1982 l1983 b1992 l1993
        (fun b2001 l2002 x2003 =>
        cond (x1986 != (0 : Int))
        (
        k2057 false)
        (
        cond (x1989 != (0 : Int))
        (
        k2057 false)
        (
        cond (!((b1987 == b1982) && (eqLI l1988 l1983)))
        (
        k2057 false)
        (
        cond (x1994 != (0 : Int))
        (
        k2057 false)
        (
        cond (x1997 != (0 : Int))
        (
        k2057 false)
        (
        cond (!((b1995 == b1984) && (eqLI l1996 l1985)))
        (
        k2057 false)
        (
        cond (x2000 != (0 : Int))
        (
        k2057 false)
        (
        cond (x2003 != (0 : Int))
        (
        k2057 false)
        (
        cond (!((b1998 == b2001) && (eqLI l1999 l2002)))
        (
        k2057 false)
        (
        G_g27 false l1983
        (fun b2013 l2014 x2015 =>
        G_g16 b2013 l2014 b2013 l2014
        (fun b2016 l2017 x2018 =>
        G_g19 (1 : Int)
        (fun b2019 l2020 =>
        G_g17 b2013 l2014 b2019 l2020
        (fun b2021 l2022 x2023 =>
        G_g16 b2021 l2022 b2021 l2022
        (fun b2024 l2025 x2026 =>
        G_g28 b2016 l2017 false l1983
        (fun x2027 x2028 =>
        G_g28 b2024 l2025 false l1983
        (fun x2029 x2030 =>
        G_g29 b1982 l1983 b184 l185
        (fun b2031 l2032 x2033 =>
        G_g13 b1982 l1983 b2031 l2032
        (fun b2034 l2035 b2036 l2037 x2038 =>
        G_g13 b184 l185 b2031 l2032
        (fun b2039 l2040 b2041 l2042 x2043 =>
        cond (x2015 == (0 : Int))
        (
        cond (x2018 == (0 : Int))
        (
        cond (x2023 == (0 : Int))
        (
        cond (x2026 == (0 : Int))
        (
        cond (x2028 == (0 : Int))
        (
        cond (decide (x2027 ≤ (0 : Int)))
        (
        cond (x2030 == (0 : Int))
        (
        cond (decide (x2029 > (0 : Int)))
        (
        cond (x2033 == (0 : Int))
        (
        cond (x2038 == (0 : Int))
        (
        cond ((b2036 == false) && (eqLI l2037 [0, 0, 0, 0, 0, 0]))
        (
        cond (x2043 == (0 : Int))
        (
        k2057 ((b2041 == false) && (eqLI l2042 [0, 0, 0, 0, 0, 0])))
        (
        k2057 false))
        (
        k2057 false))
        (
        k2057 false))
        (
        k2057 false))
        (
        k2057 false))
        (
        k2057 false))
        (
        k2057 false))
        (
        k2057 false))
        (
        k2057 false))
        (
        k2057 false))
        (
        k2057 false))
        (
        k2057 false)))))))))))))))))))))))))))))))))))))))))))))))))))))
def g3 {α : Type} (m : Nat) : Nat → Nat → Nat → Nat → Nat → Nat → Nat → (List Int) → Nat → (List Int) → (Bool → Option α) → Option α :=
  g3b (g10 m) (g11 m) (g12 m) (g13 m) (g14 m) (g15 m) (g16 m) (g17 m) (g18 m) (g19 m) (g20 m) (g21 m) (g22 m) (g23 m) (g24 m) (g25 m) (g26 m) (g27 m) (g28 m) (g29 m)
def g3tp : List TP := [(.vl (.sv (.sla 0 0 1))), (.vl (.sv (.sla 1 0 1)))]
def g3bp : List BP := [(false, [(.seqv (.int .u8))]), (false, [(.seqv (.int .u8))])]
def g3K {α : Type} (G : Nat → Nat → Nat → Nat → Nat → Nat → Nat → (List Int) → Nat → (List Int) → (Bool → Option α) → Option α) (ls : List Lf) (k : TV → List (List Seg) → List (List Seg) → Option α) : Option α :=
  G (lf ls 0).nat (lf ls 1).nat (lf ls 2).nat (lf ls 3).nat (lf ls 4).nat (lf ls 5).nat (lf ls 6).nat ((lf ls 7).lst (.int .u8)) (lf ls 8).nat ((lf ls 9).lst (.int .u8))
    (fun y0 => k (.vl (.sv (.bool y0))) [[(.seq (.int .u8) (lf ls 6).nat ((lf ls 7).lst (.int .u8)))], [(.seq (.int .u8) (lf ls 8).nat ((lf ls 9).lst (.int .u8)))]] [])
def g3hd (G_g10 : {α : Type} → Nat → Nat → Nat → Nat → (List Int) → (Bool → Option α) → Option α) (G_g11 : {α : Type} → Nat → Nat → Nat → Nat → (List Int) → (Bool → (List Int) → Option α) → Option α) (G_g12 : {α : Type} → Nat → Nat → Nat → Nat → (List Int) → (Bool → (List Int) → Option α) → Option α) (G_g13 : {α : Type} → Bool → (List Int) → Bool → (List Int) → (Bool → (List Int) → Bool → (List Int) → Int → Option α) → Option α) (G_g14 : {α : Type} → Bool → (List Int) → Bool → (List Int) → (Bool → (List Int) → Int → Option α) → Option α) (G_g15 : {α : Type} → Bool → (List Int) → Bool → (List Int) → (Bool → (List Int) → Bool → (List Int) → Int → Option α) → Option α) (G_g16 : {α : Type} → Bool → (List Int) → Bool → (List Int) → (Bool → (List Int) → Int → Option α) → Option α) (G_g17 : {α : Type} → Bool → (List Int) → Bool → (List Int) → (Bool → (List Int) → Int → Option α) → Option α) (G_g18 : {α : Type} → Bool → (List Int) → Bool → (List Int) → (Bool → (List Int) → Int → Option α) → Option α) (G_g19 : {α : Type} → Int → (Bool → (List Int) → Option α) → Option α) (G_g20 : {α : Type} → Bool → (List Int) → Bool → (List Int) → (Bool → (List Int) → Int → Option α) → Option α) (G_g21 : {α : Type} → Bool → (List Int) → Bool → (List Int) → (Int → Int → Option α) → Option α) (G_g22 : {α : Type} → Nat → Nat → Nat → Int → Nat → (List Int) → (Int → Option α) → Option α) (G_g23 : {α : Type} → Bool → (List Int) → Int → (Bool → (List Int) → Int → Option α) → Option α) (G_g24 : {α : Type} → Bool → (List Int) → Int → (Bool → (List Int) → Int → Option α) → Option α) (G_g25 : {α : Type} → Bool → (List Int) → Int → (Bool → (List Int) → Int → Option α) → Option α) (G_g26 : {α : Type} → Bool → (List Int) → Bool → (List Int) → (Bool → (List Int) → Int → Option α) → Option α) (G_g27 : {α : Type} → Bool → (List Int) → (Bool → (List Int) → Int → Option α) → Option α) (G_g28 : {α : Type} → Bool → (List Int) → Bool → (List Int) → (Int → Int → Option α) → Option α) (G_g29 : {α : Type} → Bool → (List Int) → Bool → (List Int) → (Bool → (List Int) → Int → Option α) → Option α)  : Hd where
  call := fun f args Bs k => cond (Nat.beq f 10) (rowK g10tp g10bp (g10K G_g10) args Bs k) (cond (Nat.beq f 11) (rowK g11tp g11bp (g11K G_g11) args Bs k) (cond (Nat.beq f 12) (rowK g12tp g12bp (g12K G_g12) args Bs k) (cond (Nat.beq f 13) (rowK g13tp g13bp (g13K G_g13) args Bs k) (cond (Nat.beq f 14) (rowK g14tp g14bp (g14K G_g14) args Bs k) (cond (Nat.beq f 15) (rowK g15tp g15bp (g15K G_g15) args Bs k) (cond (Nat.beq f 16) (rowK g16tp g16bp (g16K G_g16) args Bs k) (cond (Nat.beq f 17) (rowK g17tp g17bp (g17K G_g17) args Bs k) (cond (Nat.beq f 18) (rowK g18tp g18bp (g18K G_g18) args Bs k) (cond (Nat.beq f 19) (rowK g19tp g19bp (g19K G_g19) args Bs k) (cond (Nat.beq f 20) (rowK g20tp g20bp (g20K G_g20) args Bs k) (cond (Nat.beq f 21) (rowK g21tp g21bp (g21K G_g21) args Bs k) (cond (Nat.beq f 22) (rowK g22tp g22bp (g22K G_g22) args Bs k) (cond (Nat.beq f 23) (rowK g23tp g23bp (g23K G_g23) args Bs k) (cond (Nat.beq f 24) (rowK g24tp g24bp (g24K G_g24) args Bs k) (cond (Nat.beq f 25) (rowK g25tp g25bp (g25K G_g25) args Bs k) (cond (Nat.beq f 26) (rowK g26tp g26bp (g26K G_g26) args Bs k) (cond (Nat.beq f 27) (rowK g27tp g27bp (g27K G_g27) args Bs k) (cond (Nat.beq f 28) (rowK g28tp g28bp (g28K G_g28) args Bs k) (cond (Nat.beq f 29) (rowK g29tp g29bp (g29K G_g29) args Bs k) (none))))))))))))))))))))
  loop := fun id st k => none
  ro := fun f => cond (Nat.beq f 10) [0] (cond (Nat.beq f 11) [0] (cond (Nat.beq f 12) [0] (cond (Nat.beq f 22) [0] ([]))))
def g3h (m : Nat) : Hd := g3hd (g10 m) (g11 m) (g12 m) (g13 m) (g14 m) (g15 m) (g16 m) (g17 m) (g18 m) (g19 m) (g20 m) (g21 m) (g22 m) (g23 m) (g24 m) (g25 m) (g26 m) (g27 m) (g28 m) (g29 m)
theorem g3Main (G_g10 : {α : Type} → Nat → Nat → Nat → Nat → (List Int) → (Bool → Option α) → Option α) (G_g11 : {α : Type} → Nat → Nat → Nat → Nat → (List Int) → (Bool → (List Int) → Option α) → Option α) (G_g12 : {α : Type} → Nat → Nat → Nat → Nat → (List Int) → (Bool → (List Int) → Option α) → Option α) (G_g13 : {α : Type} → Bool → (List Int) → Bool → (List Int) → (Bool → (List Int) → Bool → (List Int) → Int → Option α) → Option α) (G_g14 : {α : Type} → Bool → (List Int) → Bool → (List Int) → (Bool → (List Int) → Int → Option α) → Option α) (G_g15 : {α : Type} → Bool → (List Int) → Bool → (List Int) → (Bool → (List Int) → Bool → (List Int) → Int → Option α) → Option α) (G_g16 : {α : Type} → Bool → (List Int) → Bool → (List Int) → (Bool → (List Int) → Int → Option α) → Option α) (G_g17 : {α : Type} → Bool → (List Int) → Bool → (List Int) → (Bool → (List Int) → Int → Option α) → Option α) (G_g18 : {α : Type} → Bool → (List Int) → Bool → (List Int) → (Bool → (List Int) → Int → Option α) → Option α) (G_g19 : {α : Type} → Int → (Bool → (List Int) → Option α) → Option α) (G_g20 : {α : Type} → Bool → (List Int) → Bool → (List Int) → (Bool → (List Int) → Int → Option α) → Option α) (G_g21 : {α : Type} → Bool → (List Int) → Bool → (List Int) → (Int → Int → Option α) → Option α) (G_g22 : {α : Type} → Nat → Nat → Nat → Int → Nat → (List Int) → (Int → Option α) → Option α) (G_g23 : {α : Type} → Bool → (List Int) → Int → (Bool → (List Int) → Int → Option α) → Option α) (G_g24 : {α : Type} → Bool → (List Int) → Int → (Bool → (List Int) → Int → Option α) → Option α) (G_g25 : {α : Type} → Bool → (List Int) → Int → (Bool → (List Int) → Int → Option α) → Option α) (G_g26 : {α : Type} → Bool → (List Int) → Bool → (List Int) → (Bool → (List Int) → Int → Option α) → Option α) (G_g27 : {α : Type} → Bool → (List Int) → (Bool → (List Int) → Int → Option α) → Option α) (G_g28 : {α : Type} → Bool → (List Int) → Bool → (List Int) → (Int → Int → Option α) → Option α) (G_g29 : {α : Type} → Bool → (List Int) → Bool → (List Int) → (Bool → (List Int) → Int → Option α) → Option α)  {α : Type} (ls : List Lf) (k : TV → List (List Seg) → List (List Seg) → Option α) :
    g3K (g3b G_g10 G_g11 G_g12 G_g13 G_g14 G_g15 G_g16 G_g17 G_g18 G_g19 G_g20 G_g21 G_g22 G_g23 G_g24 G_g25 G_g26 G_g27 G_g28 G_g29) ls k = evFun tab (g3hd G_g10 G_g11 G_g12 G_g13 G_g14 G_g15 G_g16 G_g17 G_g18 G_g19 G_g20 G_g21 G_g22 G_g23 G_g24 G_g25 G_g26 G_g27 G_g28 G_g29) Go.Proofs.Try.f3 (fillT g3tp ls).1 (fillB g3bp (fillT g3tp ls).2).1 k := by kernel_rfl
theorem g3Calls (m : Nat) : (g3h m).CallsOk Go.Proofs.Try.prog := (cok_cons (g10Ok m) (cok_cons (g11Ok m) (cok_cons (g12Ok m) (cok_cons (g13Ok m) (cok_cons (g14Ok m) (cok_cons (g15Ok m) (cok_cons (g16Ok m) (cok_cons (g17Ok m) (cok_cons (g18Ok m) (cok_cons (g19Ok m) (cok_cons (g20Ok m) (cok_cons (g21Ok m) (cok_cons (g22Ok m) (cok_cons (g23Ok m) (cok_cons (g24Ok m) (cok_cons (g25Ok m) (cok_cons (g26Ok m) (cok_cons (g27Ok m) (cok_cons (g28Ok m) (cok_cons (g29Ok m) cok_nil))))))))))))))))))))
theorem g3Fn (m : Nat) : FnOk Go.Proofs.Try.prog 3 g3tp g3bp (fun {α} => g3K (g3 (α := α) m)) :=
  fn_ok (tab := tab) (h := g3h m) (fn := Go.Proofs.Try.f3) (F := fun {α} => g3K (g3 (α := α) m)) tabOk (g3Calls m) mixed (by kernel_rfl) (by kernel_rfl) (fun c hc => by
    rw [bodyOf_some hc]
    exact loopsOk_of _ (fun p hp => by rw [show loopsOf (bodyOf Go.Proofs.Try.f3) = [] by kernel_rfl] at hp; cases hp))
    (fun α ls k => g3Main (g10 m) (g11 m) (g12 m) (g13 m) (g14 m) (g15 m) (g16 m) (g17 m) (g18 m) (g19 m) (g20 m) (g21 m) (g22 m) (g23 m) (g24 m) (g25 m) (g26 m) (g27 m) (g28 m) (g29 m) ls k)
theorem g3Ok (m : Nat) : RowOk Go.Proofs.Try.prog 3 (fun {α} => rowK g3tp g3bp (g3K (g3 (α := α) m))) := row_of (g3Fn m)
end Go.Proofs.Ytlmmgjngihlpeaa.Sx
